-- PRINTED BY print.sh 35421559b90ae4d0a3588c463048766b98c2df88dd9212a6774a882060cdf62d: not written by this session
import Derived.Test.YtfgadmiencgmgaaDoorProg
import Derived.Below
import Derived.Deep.Draws
import Derived.Deep.AppendLies
import Derived.Maps.AppendAt
import Derived.OwnWalk
import Derived.Laws.BytesArg
import Derived.Laws.MakeOwn
import Derived.Laws.OwnMore
import Derived.Deep.OwnRows
import Derived.Tactics
import Derived.Lib.ConvBytes
import Derived.Laws.Slices
import Derived.WalkKit
import Derived.KernelRfl
import Derived.RowKit3
import Derived.Deep.LoopGhost
import Derived.Deep.QuietTactic
import Derived.BigQuiet
import Derived.WideLaws
import Derived.Deep.DeepCutAuto
import Derived.Deep.CutBlock
import Derived.Deep.RegionHeld3
import Derived.Laws.Rows
import Derived.Lib.AppendStr
import Derived.ArgAppend
import Derived.Laws.IdiomCopy
import Derived.OrdersHeld
import Derived.Laws.BitsLemmas
import Derived.RowKit
import Derived.Test.YtfgadmiencgmgaaDoorWWords
import Derived.Test.YtfgadmiencgmgaaDoorWLast
import Derived.Test.YtfgadmiencgmgaaDoorWTab
import Derived.Test.YtfgadmiencgmgaaDoorWFour
import Derived.Test.YtfgadmiencgmgaaDoorWQPut
import Derived.Test.YtfgadmiencgmgaaDoorWApart
import Derived.Test.YtfgadmiencgmgaaDoorWArr
import Derived.Test.YtfgadmiencgmgaaDoorWZeros
import Derived.Test.YtfgadmiencgmgaaDoorWFoot
import Derived.Test.YtfgadmiencgmgaaDoorWKept
import Derived.Test.YtfgadmiencgmgaaDoorWShare
import Derived.Test.YtfgadmiencgmgaaDoorWN
import Derived.Test.YtfgadmiencgmgaaDoorWFootNe
import Derived.Test.YtfgadmiencgmgaaDoorWAt
import Derived.Test.YtfgadmiencgmgaaDoorWEqStruct
import Derived.Test.YtfgadmiencgmgaaDoorWRepsOne
import Derived.Test.YtfgadmiencgmgaaDoorWInv
import Derived.Test.YtfgadmiencgmgaaDoorWInvWords
import Derived.Test.YtfgadmiencgmgaaDoorWGuard
import Derived.Test.YtfgadmiencgmgaaDoorWNEv
import Derived.Test.YtfgadmiencgmgaaDoorWMore
namespace Go.Proofs.YtfgadmiencgmgaaDoor.PSite
open Go.RowKit Go.Proofs.YtfgadmiencgmgaaDoorW.PrintWords Go.Proofs.YtfgadmiencgmgaaDoorW.PrintLast Go.Proofs.YtfgadmiencgmgaaDoorW.PrintMore
attribute [local go_sem] max2_int min2_int max_two min_two max_three min_three max_four min_four   -- for this text's walks alone
set_option linter.unusedVariables false
set_option linter.unusedSimpArgs false



def errW : Option Int → Value
  | none => .nilIface
  | some c => .iface 0 (.int .i64 c)
theorem errW_none : errW none = .nilIface := rfl
theorem errW_some (c : Int) : errW (some c) = .iface 0 (.int .i64 c) := rfl

-- the values' own types

end Go.Proofs.YtfgadmiencgmgaaDoor.PSite

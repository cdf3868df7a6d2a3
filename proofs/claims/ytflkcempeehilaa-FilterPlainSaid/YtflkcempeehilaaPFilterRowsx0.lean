-- PRINTED BY print.sh 35421559b90ae4d0a3588c463048766b98c2df88dd9212a6774a882060cdf62d: not written by this session
import Derived.Test.YtflkcempeehilaaProg
import Derived.Below
import Derived.Deep.Draws
import Derived.Deep.AppendLies
import Derived.Maps.AppendAt
import Derived.OwnWalk
import Derived.Laws.BytesArg
import Derived.Laws.MakeOwn
import Derived.Laws.OwnMore
import Derived.Deep.OwnRows
import Derived.Tactics
import Derived.Lib.ConvBytes
import Derived.Laws.Slices
import Derived.WalkKit
import Derived.KernelRfl
import Derived.RowKit3
import Derived.Deep.LoopGhost
import Derived.Deep.QuietTactic
import Derived.BigQuiet
import Derived.WideLaws
import Derived.Deep.DeepCutAuto
import Derived.Deep.CutBlock
import Derived.Deep.RegionHeld3
import Derived.Laws.Rows
import Derived.Lib.AppendStr
import Derived.ArgAppend
import Derived.Laws.IdiomCopy
import Derived.OrdersHeld
import Derived.Laws.BitsLemmas
import Derived.RowKit
import Derived.Test.YtflkcempeehilaaWWords
import Derived.Test.YtflkcempeehilaaWLast
import Derived.Test.YtflkcempeehilaaWTab
import Derived.Test.YtflkcempeehilaaWFour
import Derived.Test.YtflkcempeehilaaWQPut
import Derived.Test.YtflkcempeehilaaWApart
import Derived.Test.YtflkcempeehilaaWArr
import Derived.Test.YtflkcempeehilaaWZeros
import Derived.Test.YtflkcempeehilaaWFoot
import Derived.Test.YtflkcempeehilaaWKept
import Derived.Test.YtflkcempeehilaaWShare
import Derived.Test.YtflkcempeehilaaWN
import Derived.Test.YtflkcempeehilaaWFootNe
import Derived.Test.YtflkcempeehilaaWAt
import Derived.Test.YtflkcempeehilaaWEqStruct
import Derived.Test.YtflkcempeehilaaWRepsOne
import Derived.Test.YtflkcempeehilaaWInv
import Derived.Test.YtflkcempeehilaaWInvWords
import Derived.Test.YtflkcempeehilaaWGuard
import Derived.Test.YtflkcempeehilaaWNEv
import Derived.Test.YtflkcempeehilaaWMore
namespace Go.Proofs.Ytflkcempeehilaa.PFilterRows
open Go.RowKit Go.Proofs.YtflkcempeehilaaW.PrintWords Go.Proofs.YtflkcempeehilaaW.PrintLast Go.Proofs.YtflkcempeehilaaW.PrintMore
attribute [local go_sem] max2_int min2_int max_two min_two max_three min_three max_four min_four   -- for this text's walks alone
set_option linter.unusedVariables false
set_option linter.unusedSimpArgs false



def errW : Option Int → Value
  | none => .nilIface
  | some c => .iface 0 (.int .i64 c)
theorem errW_none : errW none = .nilIface := rfl
theorem errW_some (c : Int) : errW (some c) = .iface 0 (.int .i64 c) := rfl

theorem info5 : (Try.prog.info? 5).map (fun i => (i.zero, i.size, i.bytes)) = some (some (.int .u8 0), 1, 1) := by kernel_rfl
-- the values' own types

end Go.Proofs.Ytflkcempeehilaa.PFilterRows

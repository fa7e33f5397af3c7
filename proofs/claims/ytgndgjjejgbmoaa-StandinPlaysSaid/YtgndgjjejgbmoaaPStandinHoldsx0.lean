-- PRINTED BY print.sh 35421559b90ae4d0a3588c463048766b98c2df88dd9212a6774a882060cdf62d: not written by this session
import Derived.Test.YtgndgjjejgbmoaaProg
import Derived.Below
import Derived.Deep.Draws
import Derived.Deep.AppendLies
import Derived.Maps.AppendAt
import Derived.OwnWalk
import Derived.Laws.BytesArg
import Derived.Laws.MakeOwn
import Derived.Laws.OwnMore
import Derived.Deep.OwnRows
import Derived.Tactics
import Derived.Lib.ConvBytes
import Derived.Laws.Slices
import Derived.WalkKit
import Derived.KernelRfl
import Derived.RowKit3
import Derived.Deep.LoopGhost
import Derived.Deep.QuietTactic
import Derived.BigQuiet
import Derived.WideLaws
import Derived.Deep.DeepCutAuto
import Derived.Deep.CutBlock
import Derived.Deep.RegionHeld3
import Derived.Laws.Rows
import Derived.Lib.AppendStr
import Derived.ArgAppend
import Derived.Laws.IdiomCopy
import Derived.OrdersHeld
import Derived.Laws.BitsLemmas
import Derived.RowKit
import Derived.Test.YtgndgjjejgbmoaaWWords
import Derived.Test.YtgndgjjejgbmoaaWLast
import Derived.Test.YtgndgjjejgbmoaaWTab
import Derived.Test.YtgndgjjejgbmoaaWFour
import Derived.Test.YtgndgjjejgbmoaaWQPut
import Derived.Test.YtgndgjjejgbmoaaWApart
import Derived.Test.YtgndgjjejgbmoaaWArr
import Derived.Test.YtgndgjjejgbmoaaWZeros
import Derived.Test.YtgndgjjejgbmoaaWFoot
import Derived.Test.YtgndgjjejgbmoaaWKept
import Derived.Test.YtgndgjjejgbmoaaWShare
import Derived.Test.YtgndgjjejgbmoaaWN
import Derived.Test.YtgndgjjejgbmoaaWFootNe
import Derived.Test.YtgndgjjejgbmoaaWAt
import Derived.Test.YtgndgjjejgbmoaaWEqStruct
import Derived.Test.YtgndgjjejgbmoaaWRepsOne
import Derived.Test.YtgndgjjejgbmoaaWInv
import Derived.Test.YtgndgjjejgbmoaaWInvWords
import Derived.Test.YtgndgjjejgbmoaaWGuard
import Derived.Test.YtgndgjjejgbmoaaWNEv
import Derived.Test.YtgndgjjejgbmoaaWMore
namespace Go.Proofs.Ytgndgjjejgbmoaa.PStandinHolds
open Go.RowKit Go.Proofs.YtgndgjjejgbmoaaW.PrintWords Go.Proofs.YtgndgjjejgbmoaaW.PrintLast Go.Proofs.YtgndgjjejgbmoaaW.PrintMore
attribute [local go_sem] max2_int min2_int max_two min_two max_three min_three max_four min_four   -- for this text's walks alone
set_option linter.unusedVariables false
set_option linter.unusedSimpArgs false



def errW : Option Int → Value
  | none => .nilIface
  | some c => .iface 0 (.int .i64 c)
theorem errW_none : errW none = .nilIface := rfl
theorem errW_some (c : Int) : errW (some c) = .iface 0 (.int .i64 c) := rfl

theorem info5 : (Try.prog.info? 5).map (fun i => (i.zero, i.size, i.bytes)) = some (some (.int .u8 0), 1, 1) := by kernel_rfl
-- the values' own types

end Go.Proofs.Ytgndgjjejgbmoaa.PStandinHolds

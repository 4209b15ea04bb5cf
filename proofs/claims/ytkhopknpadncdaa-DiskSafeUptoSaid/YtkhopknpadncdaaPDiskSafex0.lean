-- PRINTED BY print.sh 35421559b90ae4d0a3588c463048766b98c2df88dd9212a6774a882060cdf62d: not written by this session
import Derived.Test.YtkhopknpadncdaaProg
import Derived.Below
import Derived.Deep.Draws
import Derived.Deep.AppendLies
import Derived.Maps.AppendAt
import Derived.OwnWalk
import Derived.Laws.BytesArg
import Derived.Laws.MakeOwn
import Derived.Laws.OwnMore
import Derived.Deep.OwnRows
import Derived.Tactics
import Derived.Lib.ConvBytes
import Derived.Laws.Slices
import Derived.WalkKit
import Derived.KernelRfl
import Derived.RowKit3
import Derived.Deep.LoopGhost
import Derived.Deep.QuietTactic
import Derived.BigQuiet
import Derived.WideLaws
import Derived.Deep.DeepCutAuto
import Derived.Deep.CutBlock
import Derived.Deep.RegionHeld3
import Derived.Laws.Rows
import Derived.Lib.AppendStr
import Derived.ArgAppend
import Derived.Laws.IdiomCopy
import Derived.OrdersHeld
import Derived.Laws.BitsLemmas
import Derived.RowKit
import Derived.Test.YtkhopknpadncdaaWWords
import Derived.Test.YtkhopknpadncdaaWLast
import Derived.Test.YtkhopknpadncdaaWTab
import Derived.Test.YtkhopknpadncdaaWFour
import Derived.Test.YtkhopknpadncdaaWQPut
import Derived.Test.YtkhopknpadncdaaWApart
import Derived.Test.YtkhopknpadncdaaWArr
import Derived.Test.YtkhopknpadncdaaWZeros
import Derived.Test.YtkhopknpadncdaaWFoot
import Derived.Test.YtkhopknpadncdaaWKept
import Derived.Test.YtkhopknpadncdaaWShare
import Derived.Test.YtkhopknpadncdaaWN
import Derived.Test.YtkhopknpadncdaaWFootNe
import Derived.Test.YtkhopknpadncdaaWAt
import Derived.Test.YtkhopknpadncdaaWEqStruct
import Derived.Test.YtkhopknpadncdaaWRepsOne
import Derived.Test.YtkhopknpadncdaaWInv
import Derived.Test.YtkhopknpadncdaaWInvWords
import Derived.Test.YtkhopknpadncdaaWGuard
import Derived.Test.YtkhopknpadncdaaWNEv
import Derived.Test.YtkhopknpadncdaaWMore
namespace Go.Proofs.Ytkhopknpadncdaa.PDiskSafe
open Go.RowKit Go.Proofs.YtkhopknpadncdaaW.PrintWords Go.Proofs.YtkhopknpadncdaaW.PrintLast Go.Proofs.YtkhopknpadncdaaW.PrintMore
attribute [local go_sem] max2_int min2_int max_two min_two max_three min_three max_four min_four   -- for this text's walks alone
set_option linter.unusedVariables false
set_option linter.unusedSimpArgs false



def errW : Option Int → Value
  | none => .nilIface
  | some c => .iface 0 (.int .i64 c)
theorem errW_none : errW none = .nilIface := rfl
theorem errW_some (c : Int) : errW (some c) = .iface 0 (.int .i64 c) := rfl

theorem info5 : (Try.prog.info? 5).map (fun i => (i.zero, i.size, i.bytes)) = some (some (.int .u8 0), 1, 1) := by kernel_rfl
-- the values' own types

end Go.Proofs.Ytkhopknpadncdaa.PDiskSafe

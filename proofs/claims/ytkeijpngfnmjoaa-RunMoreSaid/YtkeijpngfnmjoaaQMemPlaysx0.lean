/- MemPlays: the machine's side, written by a program of this workplace: for each Go function the answers that its Lean function tells. No condition but that the Lean function tells. -/
import Derived.Test.YtkeijpngfnmjoaaProg
import Derived.Below
import Derived.Deep.Draws
import Derived.Deep.AppendLies
import Derived.Maps.AppendAt
import Derived.OwnWalk
import Derived.Laws.BytesArg
import Derived.Laws.MakeOwn
import Derived.Laws.OwnMore
import Derived.Deep.OwnRows
import Derived.Tactics
import Derived.Lib.ConvBytes
import Derived.Laws.Slices
import Derived.WalkKit
import Derived.KernelRfl
import Derived.RowKit3
import Derived.Deep.LoopGhost
import Derived.Deep.QuietTactic
import Derived.BigQuiet
import Derived.WideLaws
import Derived.Deep.DeepCutAuto
import Derived.Deep.CutBlock
import Derived.Deep.RegionHeld3
import Derived.Laws.Rows
import Derived.Lib.AppendStr
import Derived.ArgAppend
import Derived.Laws.IdiomCopy
import Derived.OrdersHeld
import Derived.Laws.BitsLemmas
import Derived.RowKit
import Derived.Lib.SliceRun
import Derived.Test.YtkeijpngfnmjoaaMineErr
import Derived.Test.YtkeijpngfnmjoaaMineBase
import Derived.Test.YtkeijpngfnmjoaaWWords
import Derived.Test.YtkeijpngfnmjoaaWLast
import Derived.Test.YtkeijpngfnmjoaaWTab
import Derived.Test.YtkeijpngfnmjoaaWFour
import Derived.Test.YtkeijpngfnmjoaaWQPut
import Derived.Test.YtkeijpngfnmjoaaWApart
import Derived.Test.YtkeijpngfnmjoaaWArr
import Derived.Test.YtkeijpngfnmjoaaWZeros
import Derived.Test.YtkeijpngfnmjoaaWFoot
import Derived.Test.YtkeijpngfnmjoaaWKept
import Derived.Test.YtkeijpngfnmjoaaWShare
import Derived.Test.YtkeijpngfnmjoaaWN
import Derived.Test.YtkeijpngfnmjoaaWFootNe
import Derived.Test.YtkeijpngfnmjoaaWAt
import Derived.Test.YtkeijpngfnmjoaaWEqStruct
import Derived.Test.YtkeijpngfnmjoaaWRepsOne
import Derived.Test.YtkeijpngfnmjoaaWInv
import Derived.Test.YtkeijpngfnmjoaaWInvWords
import Derived.Test.YtkeijpngfnmjoaaWGuard
import Derived.Test.YtkeijpngfnmjoaaWNEv
import Derived.Test.YtkeijpngfnmjoaaWMore
namespace Go.Proofs.Ytkeijpngfnmjoaa.QMemPlays
open Go.RowKit Go.Proofs.YtkeijpngfnmjoaaW.PrintWords Go.Proofs.YtkeijpngfnmjoaaW.PrintLast Go.Proofs.YtkeijpngfnmjoaaW.PrintMore Go.Proofs.Ytkeijpngfnmjoaa.MineBase
attribute [local go_sem] max2_int min2_int max_two min_two max_three min_three max_four min_four   -- for this text's walks alone
attribute [local go_sem] Go.Proofs.Ytkeijpngfnmjoaa.MineErr.eql_err Go.Proofs.Ytkeijpngfnmjoaa.MineErr.neq_err Go.Proofs.Ytkeijpngfnmjoaa.MineErr.eql_nil_err Go.Proofs.Ytkeijpngfnmjoaa.MineErr.neq_nil_err
set_option linter.unusedVariables false
set_option linter.unusedSimpArgs false



def errW : Option Int → Value
  | none => .nilIface
  | some c => .iface 0 (.int .i64 c)
theorem errW_none : errW none = .nilIface := rfl
theorem errW_some (c : Int) : errW (some c) = .iface 0 (.int .i64 c) := rfl

theorem info5 : (Try.prog.info? 5).map (fun i => (i.zero, i.size, i.bytes)) = some (some (.int .u8 0), 1, 1) := by kernel_rfl
-- the values' own types

end Go.Proofs.Ytkeijpngfnmjoaa.QMemPlays

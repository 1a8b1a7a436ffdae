/- FilesKeep: the machine's side, written by a program of this workplace: for each Go function the answers that its Lean function tells. No condition but that the Lean function tells. -/
import Derived.Test.YtlgfdokdckaejaaProg
import Derived.Below
import Derived.Deep.Draws
import Derived.Deep.AppendLies
import Derived.Maps.AppendAt
import Derived.OwnWalk
import Derived.Laws.BytesArg
import Derived.Laws.MakeOwn
import Derived.Laws.OwnMore
import Derived.Deep.OwnRows
import Derived.Tactics
import Derived.Lib.ConvBytes
import Derived.Laws.Slices
import Derived.WalkKit
import Derived.KernelRfl
import Derived.RowKit3
import Derived.Deep.LoopGhost
import Derived.Deep.QuietTactic
import Derived.BigQuiet
import Derived.WideLaws
import Derived.Deep.DeepCutAuto
import Derived.Deep.CutBlock
import Derived.Deep.RegionHeld3
import Derived.Laws.Rows
import Derived.Lib.AppendStr
import Derived.ArgAppend
import Derived.Laws.IdiomCopy
import Derived.OrdersHeld
import Derived.Laws.BitsLemmas
import Derived.RowKit
import Derived.Lib.SliceRun
import Derived.Test.YtlgfdokdckaejaaMineErr
import Derived.Test.YtlgfdokdckaejaaMineBase
import Derived.Test.YtlgfdokdckaejaaWWords
import Derived.Test.YtlgfdokdckaejaaWLast
import Derived.Test.YtlgfdokdckaejaaWTab
import Derived.Test.YtlgfdokdckaejaaWFour
import Derived.Test.YtlgfdokdckaejaaWQPut
import Derived.Test.YtlgfdokdckaejaaWApart
import Derived.Test.YtlgfdokdckaejaaWArr
import Derived.Test.YtlgfdokdckaejaaWZeros
import Derived.Test.YtlgfdokdckaejaaWFoot
import Derived.Test.YtlgfdokdckaejaaWKept
import Derived.Test.YtlgfdokdckaejaaWShare
import Derived.Test.YtlgfdokdckaejaaWN
import Derived.Test.YtlgfdokdckaejaaWFootNe
import Derived.Test.YtlgfdokdckaejaaWAt
import Derived.Test.YtlgfdokdckaejaaWEqStruct
import Derived.Test.YtlgfdokdckaejaaWRepsOne
import Derived.Test.YtlgfdokdckaejaaWInv
import Derived.Test.YtlgfdokdckaejaaWInvWords
import Derived.Test.YtlgfdokdckaejaaWGuard
import Derived.Test.YtlgfdokdckaejaaWNEv
import Derived.Test.YtlgfdokdckaejaaWMore
namespace Go.Proofs.Ytlgfdokdckaejaa.QFilesKeep
open Go.RowKit Go.Proofs.YtlgfdokdckaejaaW.PrintWords Go.Proofs.YtlgfdokdckaejaaW.PrintLast Go.Proofs.YtlgfdokdckaejaaW.PrintMore Go.Proofs.Ytlgfdokdckaejaa.MineBase
attribute [local go_sem] max2_int min2_int max_two min_two max_three min_three max_four min_four   -- for this text's walks alone
attribute [local go_sem] Go.Proofs.Ytlgfdokdckaejaa.MineErr.eql_err Go.Proofs.Ytlgfdokdckaejaa.MineErr.neq_err Go.Proofs.Ytlgfdokdckaejaa.MineErr.eql_nil_err Go.Proofs.Ytlgfdokdckaejaa.MineErr.neq_nil_err
set_option linter.unusedVariables false
set_option linter.unusedSimpArgs false



def errW : Option Int → Value
  | none => .nilIface
  | some c => .iface 0 (.int .i64 c)
theorem errW_none : errW none = .nilIface := rfl
theorem errW_some (c : Int) : errW (some c) = .iface 0 (.int .i64 c) := rfl

theorem info5 : (Try.prog.info? 5).map (fun i => (i.zero, i.size, i.bytes)) = some (some (.int .u8 0), 1, 1) := by kernel_rfl
-- the values' own types

end Go.Proofs.Ytlgfdokdckaejaa.QFilesKeep

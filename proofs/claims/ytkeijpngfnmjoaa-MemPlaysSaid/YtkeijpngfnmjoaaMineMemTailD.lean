/- MemPlays, behind its loop: the code. Its conditions: what the loop leaves. -/
import Derived.Test.YtkeijpngfnmjoaaMineMemBoth
namespace Go.Proofs.Ytkeijpngfnmjoaa.MineMem
open Go.RowKit Go.Proofs.YtkeijpngfnmjoaaW.PrintWords Go.Proofs.YtkeijpngfnmjoaaW.PrintLast Go.Proofs.YtkeijpngfnmjoaaW.PrintMore Go.Proofs.Ytkeijpngfnmjoaa.MineBase Go.Proofs.Ytkeijpngfnmjoaa.QMemPlays
set_option linter.unusedVariables false
set_option linter.unusedSimpArgs false
attribute [local go_sem] Go.Proofs.Ytkeijpngfnmjoaa.MineErr.eql_err Go.Proofs.Ytkeijpngfnmjoaa.MineErr.neq_err Go.Proofs.Ytkeijpngfnmjoaa.MineErr.eql_nil_err Go.Proofs.Ytkeijpngfnmjoaa.MineErr.neq_nil_err
/-- What stands behind the first statements. -/
def dropSeq : Code → Nat → Code
  | .seq _ b, n + 1 => dropSeq b n
  | c, _ => c
noncomputable def tail50 : Code := dropSeq (Try.f4.body.getD .skip) 10
noncomputable def tail44 : Code := dropSeq (Try.f4.body.getD .skip) 7
end Go.Proofs.Ytkeijpngfnmjoaa.MineMem

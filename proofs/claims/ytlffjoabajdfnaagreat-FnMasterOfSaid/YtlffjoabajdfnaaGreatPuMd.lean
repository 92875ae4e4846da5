/- Masters that are drawn; what a decision does. No condition. -/
import Derived.Test.YtlffjoabajdfnaaGreatPuCf
import Derived.Test.YtlffjoabajdfnaaGreatPuKy
import Derived.Test.YtlffjoabajdfnaaGreatPuH
import Derived.Test.YtlffjoabajdfnaaGreatPuAl
set_option linter.unusedVariables false
set_option linter.unusedSimpArgs false
namespace Go.Proofs.YtlffjoabajdfnaaGreat.Ev
open Go.Proofs.YtlffjoabajdfnaaGreat.Eng
open Go.RowKit (wrap64)
end Go.Proofs.YtlffjoabajdfnaaGreat.Ev

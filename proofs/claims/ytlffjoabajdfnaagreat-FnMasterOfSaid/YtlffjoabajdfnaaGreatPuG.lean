/- The laws' own functions: sizes, turns into the program's types, comparisons, marks. No condition. -/
import Derived.Test.YtlffjoabajdfnaaGreatPuF
set_option linter.unusedVariables false
set_option linter.unusedSimpArgs false
namespace Go.Proofs.YtlffjoabajdfnaaGreat.Ev
open Go.Proofs.YtlffjoabajdfnaaGreat.Eng
open Go.RowKit (wrap64)
/-! ### Marks' texts -/
/-! ### Routes -/
/-! ### Sizes -/
end Go.Proofs.YtlffjoabajdfnaaGreat.Ev

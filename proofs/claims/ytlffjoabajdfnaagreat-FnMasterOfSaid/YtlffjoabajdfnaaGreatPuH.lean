/- RunDecisions, of the program and of the reference, and the laws' functions on lists of decisions. No condition. -/
import Derived.Test.YtlffjoabajdfnaaGreatPuG
set_option linter.unusedVariables false
set_option linter.unusedSimpArgs false
namespace Go.Proofs.YtlffjoabajdfnaaGreat.Ev
open Go.Proofs.YtlffjoabajdfnaaGreat.Eng
open Go.RowKit (wrap64)
abbrev newM : impl_Master := impl_Master.mk [z_impl_Route] 1 zPlan 0
theorem impl_NewMaster_f : impl_NewMaster = some (newM, ()) := impl_NewMaster_eq
/-! ### Lists of decisions in the laws -/
end Go.Proofs.YtlffjoabajdfnaaGreat.Ev

/- Decisions: what both ApplyDecisions say. No condition. -/
import Derived.Test.YtlffjoabajdfnaaGreatPuE
set_option linter.unusedVariables false
set_option linter.unusedSimpArgs false
namespace Go.Proofs.YtlffjoabajdfnaaGreat.Ev
open Go.Proofs.YtlffjoabajdfnaaGreat.Eng
open Go.RowKit (wrap64)
def fin (ok : Bool) (m next : impl_Master) : impl_Master × Bool × Unit := if ok = true ∧ masterOk next = true then (next, true, ()) else (m, false, ())
/-! ### Kind 1 -/
def ok1 (m : impl_Master) (b : impl_Plan) : Bool := planOk b && decide (b.Step = 0) && decide (b.First < m.Shards ∧ b.Second < m.Shards) && planZero m.Work && decide (m.Turn < 999)
/-! ### Kind 3 -/
/-! ### ApplyDecision -/
end Go.Proofs.YtlffjoabajdfnaaGreat.Ev

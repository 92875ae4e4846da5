/-
  No cell of these rows narrows 'for every input' (looked for: loops, veiled, ifaces, maps, wideKeys, modest, calm, conditions, laid).
  DERIVED. THE GIVEN ROWS OF THIS SEAT. 12 by the template 'for every input the law returns true; each argument reads behind the call as it read before'; 0 by the template 'total and deterministic' (their statements: YtpeifepnaecjiaaTotals.lean).
  GIVEN WITH THE SEED: the statements are not yours to turn. If you find one false, say at which input.
  Laid BY PROGRAM, IN A SANDBOX (cutbox-rows.mjs): the forced cells as the released guide's own fill.sh prints them over the translation 6b4ae04a44d5bdc8… (all of the seat's roots in one cut). By AI agents, Wed Nov 11 2026. No macro, syntax, notation, axiom, sorry.
-/
import Derived.Test.YtpeifepnaecjiaaChecked
import GoSem.Claim
import GoSem.ClaimJoined
import GoSem.ClaimMapViews
import Derived.JoinedTies
import Derived.KernelRfl
namespace Go.Proofs.Ytpeifepnaecjiaa
/- THE CELL 'sum', in the pinned program and in every row, IS THE sha256 OF THE DUMP (.gsa) THAT YtpeifepnaecjiaaProg.lean LOADS. Nothing in Lean hashes anything: it is a label: what it is worth is what the hold of that sum in a sandbox is worth. -/
noncomputable def Try.pinned : Pinned := { name := "ytpeifepnaecjiaa", sum := "6b4ae04a44d5bdc897a80154ec7840185a7ca9de59606287fe263cdef47576af", checked := Try.checked }
namespace Rows
def none {H : Type} : Left H := { results := [], args := [] }

/-- 'laws.FnExactBackoff': WHATEVER THE INPUT: true; the input reads as it did. -/
def fnExactBackoffSpec : ChangeSpec := { name := "fnExactBackoff", fn := fun _ => fun
  | [d] => { results := [.lit (.bool true)], args := [d] }
  | _ => none }
def fnExactBackoffRow : OpenClaim := { program := "ytpeifepnaecjiaa", sum := "6b4ae04a44d5bdc897a80154ec7840185a7ca9de59606287fe263cdef47576af", func := "loop.example/rangechains/laws.FnExactBackoff", spec := "fnExactBackoff", apart := false }
def FnExactBackoffSaid : Prop := fnExactBackoffRow.holds Try.pinned (OpenSpec.ofChange fnExactBackoffSpec)

/-- ITS FALSE NEIGHBOUR: 'it returns false'. Refute it at one input. -/
def fnExactBackoffWrong : ChangeSpec := { name := "fnExactBackoff", fn := fun _ => fun
  | [d] => { results := [.lit (.bool false)], args := [d] }
  | _ => none }
def FnExactBackoffWrongFalsely : Prop := fnExactBackoffRow.holds Try.pinned (OpenSpec.ofChange fnExactBackoffWrong)

/-- 'laws.FnExactTokenStep': WHATEVER THE INPUT: true; the input reads as it did. -/
def fnExactTokenStepSpec : ChangeSpec := { name := "fnExactTokenStep", fn := fun _ => fun
  | [d1, d2] => { results := [.lit (.bool true)], args := [d1, d2] }
  | _ => none }
def fnExactTokenStepRow : OpenClaim := { program := "ytpeifepnaecjiaa", sum := "6b4ae04a44d5bdc897a80154ec7840185a7ca9de59606287fe263cdef47576af", func := "loop.example/rangechains/laws.FnExactTokenStep", spec := "fnExactTokenStep", apart := false }
def FnExactTokenStepSaid : Prop := fnExactTokenStepRow.holds Try.pinned (OpenSpec.ofChange fnExactTokenStepSpec)

/-- ITS FALSE NEIGHBOUR: 'it returns false'. Refute it at one input. -/
def fnExactTokenStepWrong : ChangeSpec := { name := "fnExactTokenStep", fn := fun _ => fun
  | [d1, d2] => { results := [.lit (.bool false)], args := [d1, d2] }
  | _ => none }
def FnExactTokenStepWrongFalsely : Prop := fnExactTokenStepRow.holds Try.pinned (OpenSpec.ofChange fnExactTokenStepWrong)

/-- 'laws.FnExactOrderValid': WHATEVER THE INPUT: true; the input reads as it did. -/
def fnExactOrderValidSpec : ChangeSpec := { name := "fnExactOrderValid", fn := fun _ => fun
  | [d1, d2] => { results := [.lit (.bool true)], args := [d1, d2] }
  | _ => none }
def fnExactOrderValidRow : OpenClaim := { program := "ytpeifepnaecjiaa", sum := "6b4ae04a44d5bdc897a80154ec7840185a7ca9de59606287fe263cdef47576af", func := "loop.example/rangechains/laws.FnExactOrderValid", spec := "fnExactOrderValid", apart := false }
def FnExactOrderValidSaid : Prop := fnExactOrderValidRow.holds Try.pinned (OpenSpec.ofChange fnExactOrderValidSpec)

/-- ITS FALSE NEIGHBOUR: 'it returns false'. Refute it at one input. -/
def fnExactOrderValidWrong : ChangeSpec := { name := "fnExactOrderValid", fn := fun _ => fun
  | [d1, d2] => { results := [.lit (.bool false)], args := [d1, d2] }
  | _ => none }
def FnExactOrderValidWrongFalsely : Prop := fnExactOrderValidRow.holds Try.pinned (OpenSpec.ofChange fnExactOrderValidWrong)

/-- 'laws.FnExactTokenRun': WHATEVER THE INPUT: true; the input reads as it did. -/
def fnExactTokenRunSpec : ChangeSpec := { name := "fnExactTokenRun", fn := fun _ => fun
  | [d1, d2] => { results := [.lit (.bool true)], args := [d1, d2] }
  | _ => none }
def fnExactTokenRunRow : OpenClaim := { program := "ytpeifepnaecjiaa", sum := "6b4ae04a44d5bdc897a80154ec7840185a7ca9de59606287fe263cdef47576af", func := "loop.example/rangechains/laws.FnExactTokenRun", spec := "fnExactTokenRun", apart := false }
def FnExactTokenRunSaid : Prop := fnExactTokenRunRow.holds Try.pinned (OpenSpec.ofChange fnExactTokenRunSpec)

/-- ITS FALSE NEIGHBOUR: 'it returns false'. Refute it at one input. -/
def fnExactTokenRunWrong : ChangeSpec := { name := "fnExactTokenRun", fn := fun _ => fun
  | [d1, d2] => { results := [.lit (.bool false)], args := [d1, d2] }
  | _ => none }
def FnExactTokenRunWrongFalsely : Prop := fnExactTokenRunRow.holds Try.pinned (OpenSpec.ofChange fnExactTokenRunWrong)

/-- 'laws.FnExactRetryTimes': WHATEVER THE INPUT: true; the input reads as it did. -/
def fnExactRetryTimesSpec : ChangeSpec := { name := "fnExactRetryTimes", fn := fun _ => fun
  | [d1, d2] => { results := [.lit (.bool true)], args := [d1, d2] }
  | _ => none }
def fnExactRetryTimesRow : OpenClaim := { program := "ytpeifepnaecjiaa", sum := "6b4ae04a44d5bdc897a80154ec7840185a7ca9de59606287fe263cdef47576af", func := "loop.example/rangechains/laws.FnExactRetryTimes", spec := "fnExactRetryTimes", apart := false }
def FnExactRetryTimesSaid : Prop := fnExactRetryTimesRow.holds Try.pinned (OpenSpec.ofChange fnExactRetryTimesSpec)

/-- ITS FALSE NEIGHBOUR: 'it returns false'. Refute it at one input. -/
def fnExactRetryTimesWrong : ChangeSpec := { name := "fnExactRetryTimes", fn := fun _ => fun
  | [d1, d2] => { results := [.lit (.bool false)], args := [d1, d2] }
  | _ => none }
def FnExactRetryTimesWrongFalsely : Prop := fnExactRetryTimesRow.holds Try.pinned (OpenSpec.ofChange fnExactRetryTimesWrong)

/-- 'laws.FnBackoff': WHATEVER THE INPUT: true; the input reads as it did. -/
def fnBackoffSpec : ChangeSpec := { name := "fnBackoff", fn := fun _ => fun
  | [d] => { results := [.lit (.bool true)], args := [d] }
  | _ => none }
def fnBackoffRow : OpenClaim := { program := "ytpeifepnaecjiaa", sum := "6b4ae04a44d5bdc897a80154ec7840185a7ca9de59606287fe263cdef47576af", func := "loop.example/rangechains/laws.FnBackoff", spec := "fnBackoff", recurses := true, apart := false }
def FnBackoffSaid : Prop := fnBackoffRow.holds Try.pinned (OpenSpec.ofChange fnBackoffSpec)

/-- ITS FALSE NEIGHBOUR: 'it returns false'. Refute it at one input. -/
def fnBackoffWrong : ChangeSpec := { name := "fnBackoff", fn := fun _ => fun
  | [d] => { results := [.lit (.bool false)], args := [d] }
  | _ => none }
def FnBackoffWrongFalsely : Prop := fnBackoffRow.holds Try.pinned (OpenSpec.ofChange fnBackoffWrong)

/-- 'laws.FnTokenStep': WHATEVER THE INPUT: true; the input reads as it did. -/
def fnTokenStepSpec : ChangeSpec := { name := "fnTokenStep", fn := fun _ => fun
  | [d] => { results := [.lit (.bool true)], args := [d] }
  | _ => none }
def fnTokenStepRow : OpenClaim := { program := "ytpeifepnaecjiaa", sum := "6b4ae04a44d5bdc897a80154ec7840185a7ca9de59606287fe263cdef47576af", func := "loop.example/rangechains/laws.FnTokenStep", spec := "fnTokenStep", recurses := true, apart := false }
def FnTokenStepSaid : Prop := fnTokenStepRow.holds Try.pinned (OpenSpec.ofChange fnTokenStepSpec)

/-- ITS FALSE NEIGHBOUR: 'it returns false'. Refute it at one input. -/
def fnTokenStepWrong : ChangeSpec := { name := "fnTokenStep", fn := fun _ => fun
  | [d] => { results := [.lit (.bool false)], args := [d] }
  | _ => none }
def FnTokenStepWrongFalsely : Prop := fnTokenStepRow.holds Try.pinned (OpenSpec.ofChange fnTokenStepWrong)

/-- 'laws.FnExactFeedValid': WHATEVER THE INPUT: true; the input reads as it did. -/
def fnExactFeedValidSpec : ChangeSpec := { name := "fnExactFeedValid", fn := fun _ => fun
  | [d] => { results := [.lit (.bool true)], args := [d] }
  | _ => none }
def fnExactFeedValidRow : OpenClaim := { program := "ytpeifepnaecjiaa", sum := "6b4ae04a44d5bdc897a80154ec7840185a7ca9de59606287fe263cdef47576af", func := "loop.example/rangechains/laws.FnExactFeedValid", spec := "fnExactFeedValid", recurses := true, apart := false }
def FnExactFeedValidSaid : Prop := fnExactFeedValidRow.holds Try.pinned (OpenSpec.ofChange fnExactFeedValidSpec)

/-- ITS FALSE NEIGHBOUR: 'it returns false'. Refute it at one input. -/
def fnExactFeedValidWrong : ChangeSpec := { name := "fnExactFeedValid", fn := fun _ => fun
  | [d] => { results := [.lit (.bool false)], args := [d] }
  | _ => none }
def FnExactFeedValidWrongFalsely : Prop := fnExactFeedValidRow.holds Try.pinned (OpenSpec.ofChange fnExactFeedValidWrong)

/-- 'laws.FnOrderValid': WHATEVER THE INPUT: true; the input reads as it did. -/
def fnOrderValidSpec : ChangeSpec := { name := "fnOrderValid", fn := fun _ => fun
  | [d] => { results := [.lit (.bool true)], args := [d] }
  | _ => none }
def fnOrderValidRow : OpenClaim := { program := "ytpeifepnaecjiaa", sum := "6b4ae04a44d5bdc897a80154ec7840185a7ca9de59606287fe263cdef47576af", func := "loop.example/rangechains/laws.FnOrderValid", spec := "fnOrderValid", recurses := true, apart := false }
def FnOrderValidSaid : Prop := fnOrderValidRow.holds Try.pinned (OpenSpec.ofChange fnOrderValidSpec)

/-- ITS FALSE NEIGHBOUR: 'it returns false'. Refute it at one input. -/
def fnOrderValidWrong : ChangeSpec := { name := "fnOrderValid", fn := fun _ => fun
  | [d] => { results := [.lit (.bool false)], args := [d] }
  | _ => none }
def FnOrderValidWrongFalsely : Prop := fnOrderValidRow.holds Try.pinned (OpenSpec.ofChange fnOrderValidWrong)

/-- 'laws.FnTokenRun': WHATEVER THE INPUT: true; the input reads as it did. -/
def fnTokenRunSpec : ChangeSpec := { name := "fnTokenRun", fn := fun _ => fun
  | [d] => { results := [.lit (.bool true)], args := [d] }
  | _ => none }
def fnTokenRunRow : OpenClaim := { program := "ytpeifepnaecjiaa", sum := "6b4ae04a44d5bdc897a80154ec7840185a7ca9de59606287fe263cdef47576af", func := "loop.example/rangechains/laws.FnTokenRun", spec := "fnTokenRun", recurses := true, apart := false }
def FnTokenRunSaid : Prop := fnTokenRunRow.holds Try.pinned (OpenSpec.ofChange fnTokenRunSpec)

/-- ITS FALSE NEIGHBOUR: 'it returns false'. Refute it at one input. -/
def fnTokenRunWrong : ChangeSpec := { name := "fnTokenRun", fn := fun _ => fun
  | [d] => { results := [.lit (.bool false)], args := [d] }
  | _ => none }
def FnTokenRunWrongFalsely : Prop := fnTokenRunRow.holds Try.pinned (OpenSpec.ofChange fnTokenRunWrong)

/-- 'laws.FnRetryTimes': WHATEVER THE INPUT: true; the input reads as it did. -/
def fnRetryTimesSpec : ChangeSpec := { name := "fnRetryTimes", fn := fun _ => fun
  | [d] => { results := [.lit (.bool true)], args := [d] }
  | _ => none }
def fnRetryTimesRow : OpenClaim := { program := "ytpeifepnaecjiaa", sum := "6b4ae04a44d5bdc897a80154ec7840185a7ca9de59606287fe263cdef47576af", func := "loop.example/rangechains/laws.FnRetryTimes", spec := "fnRetryTimes", recurses := true, apart := false }
def FnRetryTimesSaid : Prop := fnRetryTimesRow.holds Try.pinned (OpenSpec.ofChange fnRetryTimesSpec)

/-- ITS FALSE NEIGHBOUR: 'it returns false'. Refute it at one input. -/
def fnRetryTimesWrong : ChangeSpec := { name := "fnRetryTimes", fn := fun _ => fun
  | [d] => { results := [.lit (.bool false)], args := [d] }
  | _ => none }
def FnRetryTimesWrongFalsely : Prop := fnRetryTimesRow.holds Try.pinned (OpenSpec.ofChange fnRetryTimesWrong)

/-- 'laws.FnExactNewMaster': WHATEVER THE INPUT: true; the input reads as it did. -/
def fnExactNewMasterSpec : ChangeSpec := { name := "fnExactNewMaster", fn := fun _ => fun
  | [] => { results := [.lit (.bool true)], args := [] }
  | _ => none }
def fnExactNewMasterRow : OpenClaim := { program := "ytpeifepnaecjiaa", sum := "6b4ae04a44d5bdc897a80154ec7840185a7ca9de59606287fe263cdef47576af", func := "loop.example/rangechains/laws.FnExactNewMaster", spec := "fnExactNewMaster", apart := false }
def FnExactNewMasterSaid : Prop := fnExactNewMasterRow.holds Try.pinned (OpenSpec.ofChange fnExactNewMasterSpec)

/-- ITS FALSE NEIGHBOUR: 'it returns false'. Refute it at one input. -/
def fnExactNewMasterWrong : ChangeSpec := { name := "fnExactNewMaster", fn := fun _ => fun
  | [] => { results := [.lit (.bool false)], args := [] }
  | _ => none }
def FnExactNewMasterWrongFalsely : Prop := fnExactNewMasterRow.holds Try.pinned (OpenSpec.ofChange fnExactNewMasterWrong)

/- THE SECOND FORM. 'bulk': how many values and letters a reading holds, each counted each time it is reached (what is shared counts as often as it is met; a slice's spare places count too). A statement '..UptoSaid' is the law's where the arguments, and the package variables that the reading takes, are together of bulk at most 1048576: NARROWER than '..Said'. Prove '..Said' where nothing that the law and all that it calls make is longer than what came in: it says more and counts as full. Else prove '..UptoSaid'. A law counts once. -/
mutual
def uptoBulk {H : Type} : DataW H → Nat
  | .lit (.string bytes) => bytes.length + 1
  | .lit _ => 1
  | .nil => 1
  | .ptr d => uptoBulk d + 1
  | .slice elems spare => uptoBulkAll elems + uptoBulkAll spare + 1
  | .agg parts => uptoBulkAll parts + 1
  | .iface _ d => uptoBulk d + 1
  | .map entries => uptoBulkEntries entries + 1
  | .held _ => 1
def uptoBulkAll {H : Type} : List (DataW H) → Nat
  | [] => 0
  | d :: r => uptoBulk d + uptoBulkAll r
def uptoBulkEntries {H : Type} : List (Lit × DataW H) → Nat
  | [] => 0
  | x :: r => uptoBulkEntry x + uptoBulkEntries r
def uptoBulkEntry {H : Type} : Lit × DataW H → Nat
  | (.string bytes, d) => bytes.length + uptoBulk d + 1
  | (_, d) => uptoBulk d + 1
 end
def uptoSmall : (H : Type) → List (DataW H) → Bool := fun _ ds => decide (uptoBulkAll ds ≤ 1048576)
def OpenSpec.upto (s : _root_.Go.ChangeSpec) : _root_.Go.OpenSpec := { _root_.Go.OpenSpec.ofChange s with cond := some uptoSmall }

/-- 'laws.FnExactBackoff', WHERE WHAT IT READS IS OF BULK AT MOST 1048576: true; the input reads as it did. -/
def fnExactBackoffUptoRow : OpenClaim := { program := "ytpeifepnaecjiaa", sum := "6b4ae04a44d5bdc897a80154ec7840185a7ca9de59606287fe263cdef47576af", func := "loop.example/rangechains/laws.FnExactBackoff", spec := "fnExactBackoff", apart := false, narrowed := true }
def FnExactBackoffUptoSaid : Prop := fnExactBackoffUptoRow.holds Try.pinned (OpenSpec.upto fnExactBackoffSpec)

/-- 'laws.FnExactTokenStep', WHERE WHAT IT READS IS OF BULK AT MOST 1048576: true; the input reads as it did. -/
def fnExactTokenStepUptoRow : OpenClaim := { program := "ytpeifepnaecjiaa", sum := "6b4ae04a44d5bdc897a80154ec7840185a7ca9de59606287fe263cdef47576af", func := "loop.example/rangechains/laws.FnExactTokenStep", spec := "fnExactTokenStep", apart := false, narrowed := true }
def FnExactTokenStepUptoSaid : Prop := fnExactTokenStepUptoRow.holds Try.pinned (OpenSpec.upto fnExactTokenStepSpec)

/-- 'laws.FnExactOrderValid', WHERE WHAT IT READS IS OF BULK AT MOST 1048576: true; the input reads as it did. -/
def fnExactOrderValidUptoRow : OpenClaim := { program := "ytpeifepnaecjiaa", sum := "6b4ae04a44d5bdc897a80154ec7840185a7ca9de59606287fe263cdef47576af", func := "loop.example/rangechains/laws.FnExactOrderValid", spec := "fnExactOrderValid", apart := false, narrowed := true }
def FnExactOrderValidUptoSaid : Prop := fnExactOrderValidUptoRow.holds Try.pinned (OpenSpec.upto fnExactOrderValidSpec)

/-- 'laws.FnExactTokenRun', WHERE WHAT IT READS IS OF BULK AT MOST 1048576: true; the input reads as it did. -/
def fnExactTokenRunUptoRow : OpenClaim := { program := "ytpeifepnaecjiaa", sum := "6b4ae04a44d5bdc897a80154ec7840185a7ca9de59606287fe263cdef47576af", func := "loop.example/rangechains/laws.FnExactTokenRun", spec := "fnExactTokenRun", apart := false, narrowed := true }
def FnExactTokenRunUptoSaid : Prop := fnExactTokenRunUptoRow.holds Try.pinned (OpenSpec.upto fnExactTokenRunSpec)

/-- 'laws.FnExactRetryTimes', WHERE WHAT IT READS IS OF BULK AT MOST 1048576: true; the input reads as it did. -/
def fnExactRetryTimesUptoRow : OpenClaim := { program := "ytpeifepnaecjiaa", sum := "6b4ae04a44d5bdc897a80154ec7840185a7ca9de59606287fe263cdef47576af", func := "loop.example/rangechains/laws.FnExactRetryTimes", spec := "fnExactRetryTimes", apart := false, narrowed := true }
def FnExactRetryTimesUptoSaid : Prop := fnExactRetryTimesUptoRow.holds Try.pinned (OpenSpec.upto fnExactRetryTimesSpec)

/-- 'laws.FnBackoff', WHERE WHAT IT READS IS OF BULK AT MOST 1048576: true; the input reads as it did. -/
def fnBackoffUptoRow : OpenClaim := { program := "ytpeifepnaecjiaa", sum := "6b4ae04a44d5bdc897a80154ec7840185a7ca9de59606287fe263cdef47576af", func := "loop.example/rangechains/laws.FnBackoff", spec := "fnBackoff", recurses := true, apart := false, narrowed := true }
def FnBackoffUptoSaid : Prop := fnBackoffUptoRow.holds Try.pinned (OpenSpec.upto fnBackoffSpec)

/-- 'laws.FnTokenStep', WHERE WHAT IT READS IS OF BULK AT MOST 1048576: true; the input reads as it did. -/
def fnTokenStepUptoRow : OpenClaim := { program := "ytpeifepnaecjiaa", sum := "6b4ae04a44d5bdc897a80154ec7840185a7ca9de59606287fe263cdef47576af", func := "loop.example/rangechains/laws.FnTokenStep", spec := "fnTokenStep", recurses := true, apart := false, narrowed := true }
def FnTokenStepUptoSaid : Prop := fnTokenStepUptoRow.holds Try.pinned (OpenSpec.upto fnTokenStepSpec)

/-- 'laws.FnExactFeedValid', WHERE WHAT IT READS IS OF BULK AT MOST 1048576: true; the input reads as it did. -/
def fnExactFeedValidUptoRow : OpenClaim := { program := "ytpeifepnaecjiaa", sum := "6b4ae04a44d5bdc897a80154ec7840185a7ca9de59606287fe263cdef47576af", func := "loop.example/rangechains/laws.FnExactFeedValid", spec := "fnExactFeedValid", recurses := true, apart := false, narrowed := true }
def FnExactFeedValidUptoSaid : Prop := fnExactFeedValidUptoRow.holds Try.pinned (OpenSpec.upto fnExactFeedValidSpec)

/-- 'laws.FnOrderValid', WHERE WHAT IT READS IS OF BULK AT MOST 1048576: true; the input reads as it did. -/
def fnOrderValidUptoRow : OpenClaim := { program := "ytpeifepnaecjiaa", sum := "6b4ae04a44d5bdc897a80154ec7840185a7ca9de59606287fe263cdef47576af", func := "loop.example/rangechains/laws.FnOrderValid", spec := "fnOrderValid", recurses := true, apart := false, narrowed := true }
def FnOrderValidUptoSaid : Prop := fnOrderValidUptoRow.holds Try.pinned (OpenSpec.upto fnOrderValidSpec)

/-- 'laws.FnTokenRun', WHERE WHAT IT READS IS OF BULK AT MOST 1048576: true; the input reads as it did. -/
def fnTokenRunUptoRow : OpenClaim := { program := "ytpeifepnaecjiaa", sum := "6b4ae04a44d5bdc897a80154ec7840185a7ca9de59606287fe263cdef47576af", func := "loop.example/rangechains/laws.FnTokenRun", spec := "fnTokenRun", recurses := true, apart := false, narrowed := true }
def FnTokenRunUptoSaid : Prop := fnTokenRunUptoRow.holds Try.pinned (OpenSpec.upto fnTokenRunSpec)

/-- 'laws.FnRetryTimes', WHERE WHAT IT READS IS OF BULK AT MOST 1048576: true; the input reads as it did. -/
def fnRetryTimesUptoRow : OpenClaim := { program := "ytpeifepnaecjiaa", sum := "6b4ae04a44d5bdc897a80154ec7840185a7ca9de59606287fe263cdef47576af", func := "loop.example/rangechains/laws.FnRetryTimes", spec := "fnRetryTimes", recurses := true, apart := false, narrowed := true }
def FnRetryTimesUptoSaid : Prop := fnRetryTimesUptoRow.holds Try.pinned (OpenSpec.upto fnRetryTimesSpec)

/-- 'laws.FnExactNewMaster', WHERE WHAT IT READS IS OF BULK AT MOST 1048576: true; the input reads as it did. -/
def fnExactNewMasterUptoRow : OpenClaim := { program := "ytpeifepnaecjiaa", sum := "6b4ae04a44d5bdc897a80154ec7840185a7ca9de59606287fe263cdef47576af", func := "loop.example/rangechains/laws.FnExactNewMaster", spec := "fnExactNewMaster", apart := false, narrowed := true }
def FnExactNewMasterUptoSaid : Prop := fnExactNewMasterUptoRow.holds Try.pinned (OpenSpec.upto fnExactNewMasterSpec)

end Rows
end Go.Proofs.Ytpeifepnaecjiaa

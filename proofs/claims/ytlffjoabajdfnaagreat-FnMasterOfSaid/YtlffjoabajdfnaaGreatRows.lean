/-
  No cell of these rows narrows 'for every input' (looked for: loops, veiled, ifaces, maps, wideKeys, modest, calm, conditions, laid).
  DERIVED. THE GIVEN ROWS OF THIS SEAT. 5 by the template 'for every input the law returns true; each argument reads behind the call as it read before'; 0 by the template 'total and deterministic' (their statements: YtlffjoabajdfnaaGreatTotals.lean).
  GIVEN WITH THE SEED: the statements are not yours to turn. If you find one false, say at which input.
  Laid BY PROGRAM, IN A SANDBOX (cutbox-rows.mjs): the forced cells as the released guide's own fill.sh prints them over the translation e51fb632c70f5af9… (all of the seat's roots in one cut). By AI agents, Wed Nov 11 2026. No macro, syntax, notation, axiom, sorry.
-/
import Derived.Test.YtlffjoabajdfnaaGreatChecked
import GoSem.Claim
import GoSem.ClaimJoined
import GoSem.ClaimMapViews
import Derived.JoinedTies
import Derived.KernelRfl
namespace Go.Proofs.YtlffjoabajdfnaaGreat
/- THE CELL 'sum', in the pinned program and in every row, IS THE sha256 OF THE DUMP (.gsa) THAT YtlffjoabajdfnaaGreatProg.lean LOADS. Nothing in Lean hashes anything: it is a label: what it is worth is what the hold of that sum in a sandbox is worth. -/
noncomputable def Tryz.pinned : Pinned := { name := "ytlffjoabajdfnaagreat", sum := "e51fb632c70f5af987b5fda374792b5a70cd542cef36681dac55cd18ad49e9fc", checked := Tryz.checked }
namespace Rows
def none {H : Type} : Left H := { results := [], args := [] }

/-- 'laws.FnMasterValid': WHATEVER THE INPUT: true; the input reads as it did. -/
def fnMasterValidSpec : ChangeSpec := { name := "fnMasterValid", fn := fun _ => fun
  | [d] => { results := [.lit (.bool true)], args := [d] }
  | _ => none }
def fnMasterValidRow : OpenClaim := { program := "ytlffjoabajdfnaagreat", sum := "e51fb632c70f5af987b5fda374792b5a70cd542cef36681dac55cd18ad49e9fc", func := "loop.example/rangechains/laws.FnMasterValid", spec := "fnMasterValid", recurses := true, apart := false }
def FnMasterValidSaid : Prop := fnMasterValidRow.holds Tryz.pinned (OpenSpec.ofChange fnMasterValidSpec)

/-- ITS FALSE NEIGHBOUR: 'it returns false'. Refute it at one input. -/
def fnMasterValidWrong : ChangeSpec := { name := "fnMasterValid", fn := fun _ => fun
  | [d] => { results := [.lit (.bool false)], args := [d] }
  | _ => none }
def FnMasterValidWrongFalsely : Prop := fnMasterValidRow.holds Tryz.pinned (OpenSpec.ofChange fnMasterValidWrong)

/-- 'laws.FnApplyDecision': WHATEVER THE INPUT: true; the input reads as it did. -/
def fnApplyDecisionSpec : ChangeSpec := { name := "fnApplyDecision", fn := fun _ => fun
  | [d] => { results := [.lit (.bool true)], args := [d] }
  | _ => none }
def fnApplyDecisionRow : OpenClaim := { program := "ytlffjoabajdfnaagreat", sum := "e51fb632c70f5af987b5fda374792b5a70cd542cef36681dac55cd18ad49e9fc", func := "loop.example/rangechains/laws.FnApplyDecision", spec := "fnApplyDecision", recurses := true, apart := false }
def FnApplyDecisionSaid : Prop := fnApplyDecisionRow.holds Tryz.pinned (OpenSpec.ofChange fnApplyDecisionSpec)

/-- ITS FALSE NEIGHBOUR: 'it returns false'. Refute it at one input. -/
def fnApplyDecisionWrong : ChangeSpec := { name := "fnApplyDecision", fn := fun _ => fun
  | [d] => { results := [.lit (.bool false)], args := [d] }
  | _ => none }
def FnApplyDecisionWrongFalsely : Prop := fnApplyDecisionRow.holds Tryz.pinned (OpenSpec.ofChange fnApplyDecisionWrong)

/-- 'laws.FnMasterOf': WHATEVER THE INPUT: true; the input reads as it did. -/
def fnMasterOfSpec : ChangeSpec := { name := "fnMasterOf", fn := fun _ => fun
  | [d] => { results := [.lit (.bool true)], args := [d] }
  | _ => none }
def fnMasterOfRow : OpenClaim := { program := "ytlffjoabajdfnaagreat", sum := "e51fb632c70f5af987b5fda374792b5a70cd542cef36681dac55cd18ad49e9fc", func := "loop.example/rangechains/laws.FnMasterOf", spec := "fnMasterOf", unfollowed := true, recurses := true, apart := false }
def FnMasterOfSaid : Prop := fnMasterOfRow.holds Tryz.pinned (OpenSpec.ofChange fnMasterOfSpec)

/-- ITS FALSE NEIGHBOUR: 'it returns false'. Refute it at one input. -/
def fnMasterOfWrong : ChangeSpec := { name := "fnMasterOf", fn := fun _ => fun
  | [d] => { results := [.lit (.bool false)], args := [d] }
  | _ => none }
def FnMasterOfWrongFalsely : Prop := fnMasterOfRow.holds Tryz.pinned (OpenSpec.ofChange fnMasterOfWrong)

/-- 'laws.FnRunDecisions': WHATEVER THE INPUT: true; the input reads as it did. -/
def fnRunDecisionsSpec : ChangeSpec := { name := "fnRunDecisions", fn := fun _ => fun
  | [d] => { results := [.lit (.bool true)], args := [d] }
  | _ => none }
def fnRunDecisionsRow : OpenClaim := { program := "ytlffjoabajdfnaagreat", sum := "e51fb632c70f5af987b5fda374792b5a70cd542cef36681dac55cd18ad49e9fc", func := "loop.example/rangechains/laws.FnRunDecisions", spec := "fnRunDecisions", inPlace := ["slices.overlaps[loop.example/rangechains/impl.Route]"], unfollowed := true, recurses := true, apart := false }
def FnRunDecisionsSaid : Prop := fnRunDecisionsRow.holds Tryz.pinned (OpenSpec.ofChange fnRunDecisionsSpec)

/-- ITS FALSE NEIGHBOUR: 'it returns false'. Refute it at one input. -/
def fnRunDecisionsWrong : ChangeSpec := { name := "fnRunDecisions", fn := fun _ => fun
  | [d] => { results := [.lit (.bool false)], args := [d] }
  | _ => none }
def FnRunDecisionsWrongFalsely : Prop := fnRunDecisionsRow.holds Tryz.pinned (OpenSpec.ofChange fnRunDecisionsWrong)

/-- 'laws.FnDecisionOf': WHATEVER THE INPUT: true; the input reads as it did. -/
def fnDecisionOfSpec : ChangeSpec := { name := "fnDecisionOf", fn := fun _ => fun
  | [d] => { results := [.lit (.bool true)], args := [d] }
  | _ => none }
def fnDecisionOfRow : OpenClaim := { program := "ytlffjoabajdfnaagreat", sum := "e51fb632c70f5af987b5fda374792b5a70cd542cef36681dac55cd18ad49e9fc", func := "loop.example/rangechains/laws.FnDecisionOf", spec := "fnDecisionOf", inPlace := ["slices.overlaps[loop.example/rangechains/impl.Route]"], unfollowed := true, recurses := true, apart := false }
def FnDecisionOfSaid : Prop := fnDecisionOfRow.holds Tryz.pinned (OpenSpec.ofChange fnDecisionOfSpec)

/-- ITS FALSE NEIGHBOUR: 'it returns false'. Refute it at one input. -/
def fnDecisionOfWrong : ChangeSpec := { name := "fnDecisionOf", fn := fun _ => fun
  | [d] => { results := [.lit (.bool false)], args := [d] }
  | _ => none }
def FnDecisionOfWrongFalsely : Prop := fnDecisionOfRow.holds Tryz.pinned (OpenSpec.ofChange fnDecisionOfWrong)

/- THE SECOND FORM. 'bulk': how many values and letters a reading holds, each counted each time it is reached (what is shared counts as often as it is met; a slice's spare places count too). A statement '..UptoSaid' is the law's where the arguments, and the package variables that the reading takes, are together of bulk at most 1048576: NARROWER than '..Said'. Prove '..Said' where nothing that the law and all that it calls make is longer than what came in: it says more and counts as full. Else prove '..UptoSaid'. A law counts once. -/
mutual
def uptoBulk {H : Type} : DataW H → Nat
  | .lit (.string bytes) => bytes.length + 1
  | .lit _ => 1
  | .nil => 1
  | .ptr d => uptoBulk d + 1
  | .slice elems spare => uptoBulkAll elems + uptoBulkAll spare + 1
  | .agg parts => uptoBulkAll parts + 1
  | .iface _ d => uptoBulk d + 1
  | .map entries => uptoBulkEntries entries + 1
  | .held _ => 1
def uptoBulkAll {H : Type} : List (DataW H) → Nat
  | [] => 0
  | d :: r => uptoBulk d + uptoBulkAll r
def uptoBulkEntries {H : Type} : List (Lit × DataW H) → Nat
  | [] => 0
  | x :: r => uptoBulkEntry x + uptoBulkEntries r
def uptoBulkEntry {H : Type} : Lit × DataW H → Nat
  | (.string bytes, d) => bytes.length + uptoBulk d + 1
  | (_, d) => uptoBulk d + 1
 end
def uptoSmall : (H : Type) → List (DataW H) → Bool := fun _ ds => decide (uptoBulkAll ds ≤ 1048576)
def OpenSpec.upto (s : _root_.Go.ChangeSpec) : _root_.Go.OpenSpec := { _root_.Go.OpenSpec.ofChange s with cond := some uptoSmall }

/-- 'laws.FnMasterValid', WHERE WHAT IT READS IS OF BULK AT MOST 1048576: true; the input reads as it did. -/
def fnMasterValidUptoRow : OpenClaim := { program := "ytlffjoabajdfnaagreat", sum := "e51fb632c70f5af987b5fda374792b5a70cd542cef36681dac55cd18ad49e9fc", func := "loop.example/rangechains/laws.FnMasterValid", spec := "fnMasterValid", recurses := true, apart := false, narrowed := true }
def FnMasterValidUptoSaid : Prop := fnMasterValidUptoRow.holds Tryz.pinned (OpenSpec.upto fnMasterValidSpec)

/-- 'laws.FnApplyDecision', WHERE WHAT IT READS IS OF BULK AT MOST 1048576: true; the input reads as it did. -/
def fnApplyDecisionUptoRow : OpenClaim := { program := "ytlffjoabajdfnaagreat", sum := "e51fb632c70f5af987b5fda374792b5a70cd542cef36681dac55cd18ad49e9fc", func := "loop.example/rangechains/laws.FnApplyDecision", spec := "fnApplyDecision", recurses := true, apart := false, narrowed := true }
def FnApplyDecisionUptoSaid : Prop := fnApplyDecisionUptoRow.holds Tryz.pinned (OpenSpec.upto fnApplyDecisionSpec)

/-- 'laws.FnMasterOf', WHERE WHAT IT READS IS OF BULK AT MOST 1048576: true; the input reads as it did. -/
def fnMasterOfUptoRow : OpenClaim := { program := "ytlffjoabajdfnaagreat", sum := "e51fb632c70f5af987b5fda374792b5a70cd542cef36681dac55cd18ad49e9fc", func := "loop.example/rangechains/laws.FnMasterOf", spec := "fnMasterOf", unfollowed := true, recurses := true, apart := false, narrowed := true }
def FnMasterOfUptoSaid : Prop := fnMasterOfUptoRow.holds Tryz.pinned (OpenSpec.upto fnMasterOfSpec)

/-- 'laws.FnRunDecisions', WHERE WHAT IT READS IS OF BULK AT MOST 1048576: true; the input reads as it did. -/
def fnRunDecisionsUptoRow : OpenClaim := { program := "ytlffjoabajdfnaagreat", sum := "e51fb632c70f5af987b5fda374792b5a70cd542cef36681dac55cd18ad49e9fc", func := "loop.example/rangechains/laws.FnRunDecisions", spec := "fnRunDecisions", inPlace := ["slices.overlaps[loop.example/rangechains/impl.Route]"], unfollowed := true, recurses := true, apart := false, narrowed := true }
def FnRunDecisionsUptoSaid : Prop := fnRunDecisionsUptoRow.holds Tryz.pinned (OpenSpec.upto fnRunDecisionsSpec)

/-- 'laws.FnDecisionOf', WHERE WHAT IT READS IS OF BULK AT MOST 1048576: true; the input reads as it did. -/
def fnDecisionOfUptoRow : OpenClaim := { program := "ytlffjoabajdfnaagreat", sum := "e51fb632c70f5af987b5fda374792b5a70cd542cef36681dac55cd18ad49e9fc", func := "loop.example/rangechains/laws.FnDecisionOf", spec := "fnDecisionOf", inPlace := ["slices.overlaps[loop.example/rangechains/impl.Route]"], unfollowed := true, recurses := true, apart := false, narrowed := true }
def FnDecisionOfUptoSaid : Prop := fnDecisionOfUptoRow.holds Tryz.pinned (OpenSpec.upto fnDecisionOfSpec)

end Rows
end Go.Proofs.YtlffjoabajdfnaaGreat

/-
  No cell of these rows narrows 'for every input' (looked for: loops, veiled, ifaces, maps, wideKeys, modest, calm, conditions, laid).
  DERIVED. THE GIVEN ROWS OF THIS SEAT. 11 by the template 'for every input the law returns true; each argument reads behind the call as it read before'; 0 by the template 'total and deterministic' (their statements: YtkejaolfbejokaaTotals.lean).
  GIVEN WITH THE SEED: the statements are not yours to turn. If you find one false, say at which input.
  Laid BY PROGRAM, IN A SANDBOX (cutbox-rows.mjs): the forced cells as the released guide's own fill.sh prints them over the translation 59240ed07b0ef8c5… (all of the seat's roots in one cut). By AI agents, Wed Nov 11 2026. No macro, syntax, notation, axiom, sorry.
-/
import Derived.Test.YtkejaolfbejokaaChecked
import GoSem.Claim
import GoSem.ClaimJoined
import GoSem.ClaimMapViews
import Derived.JoinedTies
import Derived.KernelRfl
namespace Go.Proofs.Ytkejaolfbejokaa
/- THE CELL 'sum', in the pinned program and in every row, IS THE sha256 OF THE DUMP (.gsa) THAT YtkejaolfbejokaaProg.lean LOADS. Nothing in Lean hashes anything: it is a label: what it is worth is what the hold of that sum in a sandbox is worth. -/
noncomputable def Try.pinned : Pinned := { name := "ytkejaolfbejokaa", sum := "59240ed07b0ef8c5b69daad196908b62769eaa7a795262e887211d9550c7aefa", checked := Try.checked }
namespace Rows
def none {H : Type} : Left H := { results := [], args := [] }

/-- 'laws.FnPairDigest': WHATEVER THE INPUT: true; the input reads as it did. -/
def fnPairDigestSpec : ChangeSpec := { name := "fnPairDigest", fn := fun _ => fun
  | [d] => { results := [.lit (.bool true)], args := [d] }
  | _ => none }
def fnPairDigestRow : OpenClaim := { program := "ytkejaolfbejokaa", sum := "59240ed07b0ef8c5b69daad196908b62769eaa7a795262e887211d9550c7aefa", func := "loop.example/rangechains/laws.FnPairDigest", spec := "fnPairDigest", recurses := true, apart := false }
def FnPairDigestSaid : Prop := fnPairDigestRow.holds Try.pinned (OpenSpec.ofChange fnPairDigestSpec)

/-- ITS FALSE NEIGHBOUR: 'it returns false'. Refute it at one input. -/
def fnPairDigestWrong : ChangeSpec := { name := "fnPairDigest", fn := fun _ => fun
  | [d] => { results := [.lit (.bool false)], args := [d] }
  | _ => none }
def FnPairDigestWrongFalsely : Prop := fnPairDigestRow.holds Try.pinned (OpenSpec.ofChange fnPairDigestWrong)

/-- 'laws.FnExactPairsDigest': WHATEVER THE INPUT: true; the input reads as it did. -/
def fnExactPairsDigestSpec : ChangeSpec := { name := "fnExactPairsDigest", fn := fun _ => fun
  | [d] => { results := [.lit (.bool true)], args := [d] }
  | _ => none }
def fnExactPairsDigestRow : OpenClaim := { program := "ytkejaolfbejokaa", sum := "59240ed07b0ef8c5b69daad196908b62769eaa7a795262e887211d9550c7aefa", func := "loop.example/rangechains/laws.FnExactPairsDigest", spec := "fnExactPairsDigest", recurses := true, apart := false }
def FnExactPairsDigestSaid : Prop := fnExactPairsDigestRow.holds Try.pinned (OpenSpec.ofChange fnExactPairsDigestSpec)

/-- ITS FALSE NEIGHBOUR: 'it returns false'. Refute it at one input. -/
def fnExactPairsDigestWrong : ChangeSpec := { name := "fnExactPairsDigest", fn := fun _ => fun
  | [d] => { results := [.lit (.bool false)], args := [d] }
  | _ => none }
def FnExactPairsDigestWrongFalsely : Prop := fnExactPairsDigestRow.holds Try.pinned (OpenSpec.ofChange fnExactPairsDigestWrong)

/-- 'laws.FnExactFeedFrom': WHATEVER THE INPUT: true; the input reads as it did. -/
def fnExactFeedFromSpec : ChangeSpec := { name := "fnExactFeedFrom", fn := fun _ => fun
  | [d1, d2] => { results := [.lit (.bool true)], args := [d1, d2] }
  | _ => none }
def fnExactFeedFromRow : OpenClaim := { program := "ytkejaolfbejokaa", sum := "59240ed07b0ef8c5b69daad196908b62769eaa7a795262e887211d9550c7aefa", func := "loop.example/rangechains/laws.FnExactFeedFrom", spec := "fnExactFeedFrom", recurses := true, apart := false }
def FnExactFeedFromSaid : Prop := fnExactFeedFromRow.holds Try.pinned (OpenSpec.ofChange fnExactFeedFromSpec)

/-- ITS FALSE NEIGHBOUR: 'it returns false'. Refute it at one input. -/
def fnExactFeedFromWrong : ChangeSpec := { name := "fnExactFeedFrom", fn := fun _ => fun
  | [d1, d2] => { results := [.lit (.bool false)], args := [d1, d2] }
  | _ => none }
def FnExactFeedFromWrongFalsely : Prop := fnExactFeedFromRow.holds Try.pinned (OpenSpec.ofChange fnExactFeedFromWrong)

/-- 'laws.FnExactUndoFeed': WHATEVER THE INPUT: true; the input reads as it did. -/
def fnExactUndoFeedSpec : ChangeSpec := { name := "fnExactUndoFeed", fn := fun _ => fun
  | [d1, d2] => { results := [.lit (.bool true)], args := [d1, d2] }
  | _ => none }
def fnExactUndoFeedRow : OpenClaim := { program := "ytkejaolfbejokaa", sum := "59240ed07b0ef8c5b69daad196908b62769eaa7a795262e887211d9550c7aefa", func := "loop.example/rangechains/laws.FnExactUndoFeed", spec := "fnExactUndoFeed", recurses := true, apart := false }
def FnExactUndoFeedSaid : Prop := fnExactUndoFeedRow.holds Try.pinned (OpenSpec.ofChange fnExactUndoFeedSpec)

/-- ITS FALSE NEIGHBOUR: 'it returns false'. Refute it at one input. -/
def fnExactUndoFeedWrong : ChangeSpec := { name := "fnExactUndoFeed", fn := fun _ => fun
  | [d1, d2] => { results := [.lit (.bool false)], args := [d1, d2] }
  | _ => none }
def FnExactUndoFeedWrongFalsely : Prop := fnExactUndoFeedRow.holds Try.pinned (OpenSpec.ofChange fnExactUndoFeedWrong)

/-- 'laws.FnPairsDigest': WHATEVER THE INPUT: true; the input reads as it did. -/
def fnPairsDigestSpec : ChangeSpec := { name := "fnPairsDigest", fn := fun _ => fun
  | [d] => { results := [.lit (.bool true)], args := [d] }
  | _ => none }
def fnPairsDigestRow : OpenClaim := { program := "ytkejaolfbejokaa", sum := "59240ed07b0ef8c5b69daad196908b62769eaa7a795262e887211d9550c7aefa", func := "loop.example/rangechains/laws.FnPairsDigest", spec := "fnPairsDigest", recurses := true, apart := false }
def FnPairsDigestSaid : Prop := fnPairsDigestRow.holds Try.pinned (OpenSpec.ofChange fnPairsDigestSpec)

/-- ITS FALSE NEIGHBOUR: 'it returns false'. Refute it at one input. -/
def fnPairsDigestWrong : ChangeSpec := { name := "fnPairsDigest", fn := fun _ => fun
  | [d] => { results := [.lit (.bool false)], args := [d] }
  | _ => none }
def FnPairsDigestWrongFalsely : Prop := fnPairsDigestRow.holds Try.pinned (OpenSpec.ofChange fnPairsDigestWrong)

/-- 'laws.FnExactRealTime': WHATEVER THE INPUT: true; the input reads as it did. -/
def fnExactRealTimeSpec : ChangeSpec := { name := "fnExactRealTime", fn := fun _ => fun
  | [d1, d2] => { results := [.lit (.bool true)], args := [d1, d2] }
  | _ => none }
def fnExactRealTimeRow : OpenClaim := { program := "ytkejaolfbejokaa", sum := "59240ed07b0ef8c5b69daad196908b62769eaa7a795262e887211d9550c7aefa", func := "loop.example/rangechains/laws.FnExactRealTime", spec := "fnExactRealTime", recurses := true, apart := false }
def FnExactRealTimeSaid : Prop := fnExactRealTimeRow.holds Try.pinned (OpenSpec.ofChange fnExactRealTimeSpec)

/-- ITS FALSE NEIGHBOUR: 'it returns false'. Refute it at one input. -/
def fnExactRealTimeWrong : ChangeSpec := { name := "fnExactRealTime", fn := fun _ => fun
  | [d1, d2] => { results := [.lit (.bool false)], args := [d1, d2] }
  | _ => none }
def FnExactRealTimeWrongFalsely : Prop := fnExactRealTimeRow.holds Try.pinned (OpenSpec.ofChange fnExactRealTimeWrong)

/-- 'laws.FnExactMasterValid': WHATEVER THE INPUT: true; the input reads as it did. -/
def fnExactMasterValidSpec : ChangeSpec := { name := "fnExactMasterValid", fn := fun _ => fun
  | [d] => { results := [.lit (.bool true)], args := [d] }
  | _ => none }
def fnExactMasterValidRow : OpenClaim := { program := "ytkejaolfbejokaa", sum := "59240ed07b0ef8c5b69daad196908b62769eaa7a795262e887211d9550c7aefa", func := "loop.example/rangechains/laws.FnExactMasterValid", spec := "fnExactMasterValid", recurses := true, apart := false }
def FnExactMasterValidSaid : Prop := fnExactMasterValidRow.holds Try.pinned (OpenSpec.ofChange fnExactMasterValidSpec)

/-- ITS FALSE NEIGHBOUR: 'it returns false'. Refute it at one input. -/
def fnExactMasterValidWrong : ChangeSpec := { name := "fnExactMasterValid", fn := fun _ => fun
  | [d] => { results := [.lit (.bool false)], args := [d] }
  | _ => none }
def FnExactMasterValidWrongFalsely : Prop := fnExactMasterValidRow.holds Try.pinned (OpenSpec.ofChange fnExactMasterValidWrong)

/-- 'laws.FnRealTime': WHATEVER THE INPUT: true; the input reads as it did. -/
def fnRealTimeSpec : ChangeSpec := { name := "fnRealTime", fn := fun _ => fun
  | [d] => { results := [.lit (.bool true)], args := [d] }
  | _ => none }
def fnRealTimeRow : OpenClaim := { program := "ytkejaolfbejokaa", sum := "59240ed07b0ef8c5b69daad196908b62769eaa7a795262e887211d9550c7aefa", func := "loop.example/rangechains/laws.FnRealTime", spec := "fnRealTime", recurses := true, apart := false }
def FnRealTimeSaid : Prop := fnRealTimeRow.holds Try.pinned (OpenSpec.ofChange fnRealTimeSpec)

/-- ITS FALSE NEIGHBOUR: 'it returns false'. Refute it at one input. -/
def fnRealTimeWrong : ChangeSpec := { name := "fnRealTime", fn := fun _ => fun
  | [d] => { results := [.lit (.bool false)], args := [d] }
  | _ => none }
def FnRealTimeWrongFalsely : Prop := fnRealTimeRow.holds Try.pinned (OpenSpec.ofChange fnRealTimeWrong)

/-- 'laws.FnExactApplyFeed': WHATEVER THE INPUT: true; the input reads as it did. -/
def fnExactApplyFeedSpec : ChangeSpec := { name := "fnExactApplyFeed", fn := fun _ => fun
  | [d1, d2] => { results := [.lit (.bool true)], args := [d1, d2] }
  | _ => none }
def fnExactApplyFeedRow : OpenClaim := { program := "ytkejaolfbejokaa", sum := "59240ed07b0ef8c5b69daad196908b62769eaa7a795262e887211d9550c7aefa", func := "loop.example/rangechains/laws.FnExactApplyFeed", spec := "fnExactApplyFeed", unfollowed := true, recurses := true, apart := false }
def FnExactApplyFeedSaid : Prop := fnExactApplyFeedRow.holds Try.pinned (OpenSpec.ofChange fnExactApplyFeedSpec)

/-- ITS FALSE NEIGHBOUR: 'it returns false'. Refute it at one input. -/
def fnExactApplyFeedWrong : ChangeSpec := { name := "fnExactApplyFeed", fn := fun _ => fun
  | [d1, d2] => { results := [.lit (.bool false)], args := [d1, d2] }
  | _ => none }
def FnExactApplyFeedWrongFalsely : Prop := fnExactApplyFeedRow.holds Try.pinned (OpenSpec.ofChange fnExactApplyFeedWrong)

/-- 'laws.FnPartDigests': WHATEVER THE INPUT: true; the input reads as it did. -/
def fnPartDigestsSpec : ChangeSpec := { name := "fnPartDigests", fn := fun _ => fun
  | [d] => { results := [.lit (.bool true)], args := [d] }
  | _ => none }
def fnPartDigestsRow : OpenClaim := { program := "ytkejaolfbejokaa", sum := "59240ed07b0ef8c5b69daad196908b62769eaa7a795262e887211d9550c7aefa", func := "loop.example/rangechains/laws.FnPartDigests", spec := "fnPartDigests", unfollowed := true, recurses := true, apart := false }
def FnPartDigestsSaid : Prop := fnPartDigestsRow.holds Try.pinned (OpenSpec.ofChange fnPartDigestsSpec)

/-- ITS FALSE NEIGHBOUR: 'it returns false'. Refute it at one input. -/
def fnPartDigestsWrong : ChangeSpec := { name := "fnPartDigests", fn := fun _ => fun
  | [d] => { results := [.lit (.bool false)], args := [d] }
  | _ => none }
def FnPartDigestsWrongFalsely : Prop := fnPartDigestsRow.holds Try.pinned (OpenSpec.ofChange fnPartDigestsWrong)

/-- 'laws.FnExactPartDigests': WHATEVER THE INPUT: true; the input reads as it did. -/
def fnExactPartDigestsSpec : ChangeSpec := { name := "fnExactPartDigests", fn := fun _ => fun
  | [d1, d2] => { results := [.lit (.bool true)], args := [d1, d2] }
  | _ => none }
def fnExactPartDigestsRow : OpenClaim := { program := "ytkejaolfbejokaa", sum := "59240ed07b0ef8c5b69daad196908b62769eaa7a795262e887211d9550c7aefa", func := "loop.example/rangechains/laws.FnExactPartDigests", spec := "fnExactPartDigests", unfollowed := true, recurses := true, apart := false }
def FnExactPartDigestsSaid : Prop := fnExactPartDigestsRow.holds Try.pinned (OpenSpec.ofChange fnExactPartDigestsSpec)

/-- ITS FALSE NEIGHBOUR: 'it returns false'. Refute it at one input. -/
def fnExactPartDigestsWrong : ChangeSpec := { name := "fnExactPartDigests", fn := fun _ => fun
  | [d1, d2] => { results := [.lit (.bool false)], args := [d1, d2] }
  | _ => none }
def FnExactPartDigestsWrongFalsely : Prop := fnExactPartDigestsRow.holds Try.pinned (OpenSpec.ofChange fnExactPartDigestsWrong)

/- THE SECOND FORM. 'bulk': how many values and letters a reading holds, each counted each time it is reached (what is shared counts as often as it is met; a slice's spare places count too). A statement '..UptoSaid' is the law's where the arguments, and the package variables that the reading takes, are together of bulk at most 1048576: NARROWER than '..Said'. Prove '..Said' where nothing that the law and all that it calls make is longer than what came in: it says more and counts as full. Else prove '..UptoSaid'. A law counts once. -/
mutual
def uptoBulk {H : Type} : DataW H → Nat
  | .lit (.string bytes) => bytes.length + 1
  | .lit _ => 1
  | .nil => 1
  | .ptr d => uptoBulk d + 1
  | .slice elems spare => uptoBulkAll elems + uptoBulkAll spare + 1
  | .agg parts => uptoBulkAll parts + 1
  | .iface _ d => uptoBulk d + 1
  | .map entries => uptoBulkEntries entries + 1
  | .held _ => 1
def uptoBulkAll {H : Type} : List (DataW H) → Nat
  | [] => 0
  | d :: r => uptoBulk d + uptoBulkAll r
def uptoBulkEntries {H : Type} : List (Lit × DataW H) → Nat
  | [] => 0
  | x :: r => uptoBulkEntry x + uptoBulkEntries r
def uptoBulkEntry {H : Type} : Lit × DataW H → Nat
  | (.string bytes, d) => bytes.length + uptoBulk d + 1
  | (_, d) => uptoBulk d + 1
 end
def uptoSmall : (H : Type) → List (DataW H) → Bool := fun _ ds => decide (uptoBulkAll ds ≤ 1048576)
def OpenSpec.upto (s : _root_.Go.ChangeSpec) : _root_.Go.OpenSpec := { _root_.Go.OpenSpec.ofChange s with cond := some uptoSmall }

/-- 'laws.FnPairDigest', WHERE WHAT IT READS IS OF BULK AT MOST 1048576: true; the input reads as it did. -/
def fnPairDigestUptoRow : OpenClaim := { program := "ytkejaolfbejokaa", sum := "59240ed07b0ef8c5b69daad196908b62769eaa7a795262e887211d9550c7aefa", func := "loop.example/rangechains/laws.FnPairDigest", spec := "fnPairDigest", recurses := true, apart := false, narrowed := true }
def FnPairDigestUptoSaid : Prop := fnPairDigestUptoRow.holds Try.pinned (OpenSpec.upto fnPairDigestSpec)

/-- 'laws.FnExactPairsDigest', WHERE WHAT IT READS IS OF BULK AT MOST 1048576: true; the input reads as it did. -/
def fnExactPairsDigestUptoRow : OpenClaim := { program := "ytkejaolfbejokaa", sum := "59240ed07b0ef8c5b69daad196908b62769eaa7a795262e887211d9550c7aefa", func := "loop.example/rangechains/laws.FnExactPairsDigest", spec := "fnExactPairsDigest", recurses := true, apart := false, narrowed := true }
def FnExactPairsDigestUptoSaid : Prop := fnExactPairsDigestUptoRow.holds Try.pinned (OpenSpec.upto fnExactPairsDigestSpec)

/-- 'laws.FnExactFeedFrom', WHERE WHAT IT READS IS OF BULK AT MOST 1048576: true; the input reads as it did. -/
def fnExactFeedFromUptoRow : OpenClaim := { program := "ytkejaolfbejokaa", sum := "59240ed07b0ef8c5b69daad196908b62769eaa7a795262e887211d9550c7aefa", func := "loop.example/rangechains/laws.FnExactFeedFrom", spec := "fnExactFeedFrom", recurses := true, apart := false, narrowed := true }
def FnExactFeedFromUptoSaid : Prop := fnExactFeedFromUptoRow.holds Try.pinned (OpenSpec.upto fnExactFeedFromSpec)

/-- 'laws.FnExactUndoFeed', WHERE WHAT IT READS IS OF BULK AT MOST 1048576: true; the input reads as it did. -/
def fnExactUndoFeedUptoRow : OpenClaim := { program := "ytkejaolfbejokaa", sum := "59240ed07b0ef8c5b69daad196908b62769eaa7a795262e887211d9550c7aefa", func := "loop.example/rangechains/laws.FnExactUndoFeed", spec := "fnExactUndoFeed", recurses := true, apart := false, narrowed := true }
def FnExactUndoFeedUptoSaid : Prop := fnExactUndoFeedUptoRow.holds Try.pinned (OpenSpec.upto fnExactUndoFeedSpec)

/-- 'laws.FnPairsDigest', WHERE WHAT IT READS IS OF BULK AT MOST 1048576: true; the input reads as it did. -/
def fnPairsDigestUptoRow : OpenClaim := { program := "ytkejaolfbejokaa", sum := "59240ed07b0ef8c5b69daad196908b62769eaa7a795262e887211d9550c7aefa", func := "loop.example/rangechains/laws.FnPairsDigest", spec := "fnPairsDigest", recurses := true, apart := false, narrowed := true }
def FnPairsDigestUptoSaid : Prop := fnPairsDigestUptoRow.holds Try.pinned (OpenSpec.upto fnPairsDigestSpec)

/-- 'laws.FnExactRealTime', WHERE WHAT IT READS IS OF BULK AT MOST 1048576: true; the input reads as it did. -/
def fnExactRealTimeUptoRow : OpenClaim := { program := "ytkejaolfbejokaa", sum := "59240ed07b0ef8c5b69daad196908b62769eaa7a795262e887211d9550c7aefa", func := "loop.example/rangechains/laws.FnExactRealTime", spec := "fnExactRealTime", recurses := true, apart := false, narrowed := true }
def FnExactRealTimeUptoSaid : Prop := fnExactRealTimeUptoRow.holds Try.pinned (OpenSpec.upto fnExactRealTimeSpec)

/-- 'laws.FnExactMasterValid', WHERE WHAT IT READS IS OF BULK AT MOST 1048576: true; the input reads as it did. -/
def fnExactMasterValidUptoRow : OpenClaim := { program := "ytkejaolfbejokaa", sum := "59240ed07b0ef8c5b69daad196908b62769eaa7a795262e887211d9550c7aefa", func := "loop.example/rangechains/laws.FnExactMasterValid", spec := "fnExactMasterValid", recurses := true, apart := false, narrowed := true }
def FnExactMasterValidUptoSaid : Prop := fnExactMasterValidUptoRow.holds Try.pinned (OpenSpec.upto fnExactMasterValidSpec)

/-- 'laws.FnRealTime', WHERE WHAT IT READS IS OF BULK AT MOST 1048576: true; the input reads as it did. -/
def fnRealTimeUptoRow : OpenClaim := { program := "ytkejaolfbejokaa", sum := "59240ed07b0ef8c5b69daad196908b62769eaa7a795262e887211d9550c7aefa", func := "loop.example/rangechains/laws.FnRealTime", spec := "fnRealTime", recurses := true, apart := false, narrowed := true }
def FnRealTimeUptoSaid : Prop := fnRealTimeUptoRow.holds Try.pinned (OpenSpec.upto fnRealTimeSpec)

/-- 'laws.FnExactApplyFeed', WHERE WHAT IT READS IS OF BULK AT MOST 1048576: true; the input reads as it did. -/
def fnExactApplyFeedUptoRow : OpenClaim := { program := "ytkejaolfbejokaa", sum := "59240ed07b0ef8c5b69daad196908b62769eaa7a795262e887211d9550c7aefa", func := "loop.example/rangechains/laws.FnExactApplyFeed", spec := "fnExactApplyFeed", unfollowed := true, recurses := true, apart := false, narrowed := true }
def FnExactApplyFeedUptoSaid : Prop := fnExactApplyFeedUptoRow.holds Try.pinned (OpenSpec.upto fnExactApplyFeedSpec)

/-- 'laws.FnPartDigests', WHERE WHAT IT READS IS OF BULK AT MOST 1048576: true; the input reads as it did. -/
def fnPartDigestsUptoRow : OpenClaim := { program := "ytkejaolfbejokaa", sum := "59240ed07b0ef8c5b69daad196908b62769eaa7a795262e887211d9550c7aefa", func := "loop.example/rangechains/laws.FnPartDigests", spec := "fnPartDigests", unfollowed := true, recurses := true, apart := false, narrowed := true }
def FnPartDigestsUptoSaid : Prop := fnPartDigestsUptoRow.holds Try.pinned (OpenSpec.upto fnPartDigestsSpec)

/-- 'laws.FnExactPartDigests', WHERE WHAT IT READS IS OF BULK AT MOST 1048576: true; the input reads as it did. -/
def fnExactPartDigestsUptoRow : OpenClaim := { program := "ytkejaolfbejokaa", sum := "59240ed07b0ef8c5b69daad196908b62769eaa7a795262e887211d9550c7aefa", func := "loop.example/rangechains/laws.FnExactPartDigests", spec := "fnExactPartDigests", unfollowed := true, recurses := true, apart := false, narrowed := true }
def FnExactPartDigestsUptoSaid : Prop := fnExactPartDigestsUptoRow.holds Try.pinned (OpenSpec.upto fnExactPartDigestsSpec)

end Rows
end Go.Proofs.Ytkejaolfbejokaa

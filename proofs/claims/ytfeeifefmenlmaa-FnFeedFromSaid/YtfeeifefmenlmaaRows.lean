/-
  No cell of these rows narrows 'for every input' (looked for: loops, veiled, ifaces, maps, wideKeys, modest, calm, conditions, laid).
  DERIVED. THE GIVEN ROWS OF THIS SEAT. 11 by the template 'for every input the law returns true; each argument reads behind the call as it read before'; 0 by the template 'total and deterministic' (their statements: YtfeeifefmenlmaaTotals.lean).
  GIVEN WITH THE SEED: the statements are not yours to turn. If you find one false, say at which input.
  Laid BY PROGRAM, IN A SANDBOX (cutbox-rows.mjs): the forced cells as the released guide's own fill.sh prints them over the translation dfe214d6df41b85b… (all of the seat's roots in one cut). By AI agents, Wed Nov 11 2026. No macro, syntax, notation, axiom, sorry.
-/
import Derived.Test.YtfeeifefmenlmaaChecked
import GoSem.Claim
import GoSem.ClaimJoined
import GoSem.ClaimMapViews
import Derived.JoinedTies
import Derived.KernelRfl
namespace Go.Proofs.Ytfeeifefmenlmaa
/- THE CELL 'sum', in the pinned program and in every row, IS THE sha256 OF THE DUMP (.gsa) THAT YtfeeifefmenlmaaProg.lean LOADS. Nothing in Lean hashes anything: it is a label: what it is worth is what the hold of that sum in a sandbox is worth. -/
noncomputable def Try.pinned : Pinned := { name := "ytfeeifefmenlmaa", sum := "dfe214d6df41b85b7e0c0ce99c148fadd5063bc058d44364b29b69c11af55f82", checked := Try.checked }
namespace Rows
def none {H : Type} : Left H := { results := [], args := [] }

/-- 'laws.FnPairsDigest': WHATEVER THE INPUT: true; the input reads as it did. -/
def fnPairsDigestSpec : ChangeSpec := { name := "fnPairsDigest", fn := fun _ => fun
  | [d] => { results := [.lit (.bool true)], args := [d] }
  | _ => none }
def fnPairsDigestRow : OpenClaim := { program := "ytfeeifefmenlmaa", sum := "dfe214d6df41b85b7e0c0ce99c148fadd5063bc058d44364b29b69c11af55f82", func := "loop.example/rangechains/laws.FnPairsDigest", spec := "fnPairsDigest", recurses := true, apart := false }
def FnPairsDigestSaid : Prop := fnPairsDigestRow.holds Try.pinned (OpenSpec.ofChange fnPairsDigestSpec)

/-- ITS FALSE NEIGHBOUR: 'it returns false'. Refute it at one input. -/
def fnPairsDigestWrong : ChangeSpec := { name := "fnPairsDigest", fn := fun _ => fun
  | [d] => { results := [.lit (.bool false)], args := [d] }
  | _ => none }
def FnPairsDigestWrongFalsely : Prop := fnPairsDigestRow.holds Try.pinned (OpenSpec.ofChange fnPairsDigestWrong)

/-- 'laws.FnRealTime': WHATEVER THE INPUT: true; the input reads as it did. -/
def fnRealTimeSpec : ChangeSpec := { name := "fnRealTime", fn := fun _ => fun
  | [d] => { results := [.lit (.bool true)], args := [d] }
  | _ => none }
def fnRealTimeRow : OpenClaim := { program := "ytfeeifefmenlmaa", sum := "dfe214d6df41b85b7e0c0ce99c148fadd5063bc058d44364b29b69c11af55f82", func := "loop.example/rangechains/laws.FnRealTime", spec := "fnRealTime", recurses := true, apart := false }
def FnRealTimeSaid : Prop := fnRealTimeRow.holds Try.pinned (OpenSpec.ofChange fnRealTimeSpec)

/-- ITS FALSE NEIGHBOUR: 'it returns false'. Refute it at one input. -/
def fnRealTimeWrong : ChangeSpec := { name := "fnRealTime", fn := fun _ => fun
  | [d] => { results := [.lit (.bool false)], args := [d] }
  | _ => none }
def FnRealTimeWrongFalsely : Prop := fnRealTimeRow.holds Try.pinned (OpenSpec.ofChange fnRealTimeWrong)

/-- 'laws.FnExactApplyFeed': WHATEVER THE INPUT: true; the input reads as it did. -/
def fnExactApplyFeedSpec : ChangeSpec := { name := "fnExactApplyFeed", fn := fun _ => fun
  | [d1, d2] => { results := [.lit (.bool true)], args := [d1, d2] }
  | _ => none }
def fnExactApplyFeedRow : OpenClaim := { program := "ytfeeifefmenlmaa", sum := "dfe214d6df41b85b7e0c0ce99c148fadd5063bc058d44364b29b69c11af55f82", func := "loop.example/rangechains/laws.FnExactApplyFeed", spec := "fnExactApplyFeed", unfollowed := true, recurses := true, apart := false }
def FnExactApplyFeedSaid : Prop := fnExactApplyFeedRow.holds Try.pinned (OpenSpec.ofChange fnExactApplyFeedSpec)

/-- ITS FALSE NEIGHBOUR: 'it returns false'. Refute it at one input. -/
def fnExactApplyFeedWrong : ChangeSpec := { name := "fnExactApplyFeed", fn := fun _ => fun
  | [d1, d2] => { results := [.lit (.bool false)], args := [d1, d2] }
  | _ => none }
def FnExactApplyFeedWrongFalsely : Prop := fnExactApplyFeedRow.holds Try.pinned (OpenSpec.ofChange fnExactApplyFeedWrong)

/-- 'laws.FnPartDigests': WHATEVER THE INPUT: true; the input reads as it did. -/
def fnPartDigestsSpec : ChangeSpec := { name := "fnPartDigests", fn := fun _ => fun
  | [d] => { results := [.lit (.bool true)], args := [d] }
  | _ => none }
def fnPartDigestsRow : OpenClaim := { program := "ytfeeifefmenlmaa", sum := "dfe214d6df41b85b7e0c0ce99c148fadd5063bc058d44364b29b69c11af55f82", func := "loop.example/rangechains/laws.FnPartDigests", spec := "fnPartDigests", unfollowed := true, recurses := true, apart := false }
def FnPartDigestsSaid : Prop := fnPartDigestsRow.holds Try.pinned (OpenSpec.ofChange fnPartDigestsSpec)

/-- ITS FALSE NEIGHBOUR: 'it returns false'. Refute it at one input. -/
def fnPartDigestsWrong : ChangeSpec := { name := "fnPartDigests", fn := fun _ => fun
  | [d] => { results := [.lit (.bool false)], args := [d] }
  | _ => none }
def FnPartDigestsWrongFalsely : Prop := fnPartDigestsRow.holds Try.pinned (OpenSpec.ofChange fnPartDigestsWrong)

/-- 'laws.FnExactPartDigests': WHATEVER THE INPUT: true; the input reads as it did. -/
def fnExactPartDigestsSpec : ChangeSpec := { name := "fnExactPartDigests", fn := fun _ => fun
  | [d1, d2] => { results := [.lit (.bool true)], args := [d1, d2] }
  | _ => none }
def fnExactPartDigestsRow : OpenClaim := { program := "ytfeeifefmenlmaa", sum := "dfe214d6df41b85b7e0c0ce99c148fadd5063bc058d44364b29b69c11af55f82", func := "loop.example/rangechains/laws.FnExactPartDigests", spec := "fnExactPartDigests", unfollowed := true, recurses := true, apart := false }
def FnExactPartDigestsSaid : Prop := fnExactPartDigestsRow.holds Try.pinned (OpenSpec.ofChange fnExactPartDigestsSpec)

/-- ITS FALSE NEIGHBOUR: 'it returns false'. Refute it at one input. -/
def fnExactPartDigestsWrong : ChangeSpec := { name := "fnExactPartDigests", fn := fun _ => fun
  | [d1, d2] => { results := [.lit (.bool false)], args := [d1, d2] }
  | _ => none }
def FnExactPartDigestsWrongFalsely : Prop := fnExactPartDigestsRow.holds Try.pinned (OpenSpec.ofChange fnExactPartDigestsWrong)

/-- 'laws.FnExactDiffParts': WHATEVER THE INPUT: true; the input reads as it did. -/
def fnExactDiffPartsSpec : ChangeSpec := { name := "fnExactDiffParts", fn := fun _ => fun
  | [d1, d2, d3] => { results := [.lit (.bool true)], args := [d1, d2, d3] }
  | _ => none }
def fnExactDiffPartsRow : OpenClaim := { program := "ytfeeifefmenlmaa", sum := "dfe214d6df41b85b7e0c0ce99c148fadd5063bc058d44364b29b69c11af55f82", func := "loop.example/rangechains/laws.FnExactDiffParts", spec := "fnExactDiffParts", unfollowed := true, recurses := true, apart := false }
def FnExactDiffPartsSaid : Prop := fnExactDiffPartsRow.holds Try.pinned (OpenSpec.ofChange fnExactDiffPartsSpec)

/-- ITS FALSE NEIGHBOUR: 'it returns false'. Refute it at one input. -/
def fnExactDiffPartsWrong : ChangeSpec := { name := "fnExactDiffParts", fn := fun _ => fun
  | [d1, d2, d3] => { results := [.lit (.bool false)], args := [d1, d2, d3] }
  | _ => none }
def FnExactDiffPartsWrongFalsely : Prop := fnExactDiffPartsRow.holds Try.pinned (OpenSpec.ofChange fnExactDiffPartsWrong)

/-- 'laws.FnFeedValid': WHATEVER THE INPUT: true; the input reads as it did. -/
def fnFeedValidSpec : ChangeSpec := { name := "fnFeedValid", fn := fun _ => fun
  | [d] => { results := [.lit (.bool true)], args := [d] }
  | _ => none }
def fnFeedValidRow : OpenClaim := { program := "ytfeeifefmenlmaa", sum := "dfe214d6df41b85b7e0c0ce99c148fadd5063bc058d44364b29b69c11af55f82", func := "loop.example/rangechains/laws.FnFeedValid", spec := "fnFeedValid", recurses := true, apart := false }
def FnFeedValidSaid : Prop := fnFeedValidRow.holds Try.pinned (OpenSpec.ofChange fnFeedValidSpec)

/-- ITS FALSE NEIGHBOUR: 'it returns false'. Refute it at one input. -/
def fnFeedValidWrong : ChangeSpec := { name := "fnFeedValid", fn := fun _ => fun
  | [d] => { results := [.lit (.bool false)], args := [d] }
  | _ => none }
def FnFeedValidWrongFalsely : Prop := fnFeedValidRow.holds Try.pinned (OpenSpec.ofChange fnFeedValidWrong)

/-- 'laws.FnFeedFrom': WHATEVER THE INPUT: true; the input reads as it did. -/
def fnFeedFromSpec : ChangeSpec := { name := "fnFeedFrom", fn := fun _ => fun
  | [d] => { results := [.lit (.bool true)], args := [d] }
  | _ => none }
def fnFeedFromRow : OpenClaim := { program := "ytfeeifefmenlmaa", sum := "dfe214d6df41b85b7e0c0ce99c148fadd5063bc058d44364b29b69c11af55f82", func := "loop.example/rangechains/laws.FnFeedFrom", spec := "fnFeedFrom", recurses := true, apart := false }
def FnFeedFromSaid : Prop := fnFeedFromRow.holds Try.pinned (OpenSpec.ofChange fnFeedFromSpec)

/-- ITS FALSE NEIGHBOUR: 'it returns false'. Refute it at one input. -/
def fnFeedFromWrong : ChangeSpec := { name := "fnFeedFrom", fn := fun _ => fun
  | [d] => { results := [.lit (.bool false)], args := [d] }
  | _ => none }
def FnFeedFromWrongFalsely : Prop := fnFeedFromRow.holds Try.pinned (OpenSpec.ofChange fnFeedFromWrong)

/-- 'laws.FnUndoFeed': WHATEVER THE INPUT: true; the input reads as it did. -/
def fnUndoFeedSpec : ChangeSpec := { name := "fnUndoFeed", fn := fun _ => fun
  | [d] => { results := [.lit (.bool true)], args := [d] }
  | _ => none }
def fnUndoFeedRow : OpenClaim := { program := "ytfeeifefmenlmaa", sum := "dfe214d6df41b85b7e0c0ce99c148fadd5063bc058d44364b29b69c11af55f82", func := "loop.example/rangechains/laws.FnUndoFeed", spec := "fnUndoFeed", recurses := true, apart := false }
def FnUndoFeedSaid : Prop := fnUndoFeedRow.holds Try.pinned (OpenSpec.ofChange fnUndoFeedSpec)

/-- ITS FALSE NEIGHBOUR: 'it returns false'. Refute it at one input. -/
def fnUndoFeedWrong : ChangeSpec := { name := "fnUndoFeed", fn := fun _ => fun
  | [d] => { results := [.lit (.bool false)], args := [d] }
  | _ => none }
def FnUndoFeedWrongFalsely : Prop := fnUndoFeedRow.holds Try.pinned (OpenSpec.ofChange fnUndoFeedWrong)

/-- 'laws.FnDiffParts': WHATEVER THE INPUT: true; the input reads as it did. -/
def fnDiffPartsSpec : ChangeSpec := { name := "fnDiffParts", fn := fun _ => fun
  | [d] => { results := [.lit (.bool true)], args := [d] }
  | _ => none }
def fnDiffPartsRow : OpenClaim := { program := "ytfeeifefmenlmaa", sum := "dfe214d6df41b85b7e0c0ce99c148fadd5063bc058d44364b29b69c11af55f82", func := "loop.example/rangechains/laws.FnDiffParts", spec := "fnDiffParts", unfollowed := true, recurses := true, apart := false }
def FnDiffPartsSaid : Prop := fnDiffPartsRow.holds Try.pinned (OpenSpec.ofChange fnDiffPartsSpec)

/-- ITS FALSE NEIGHBOUR: 'it returns false'. Refute it at one input. -/
def fnDiffPartsWrong : ChangeSpec := { name := "fnDiffParts", fn := fun _ => fun
  | [d] => { results := [.lit (.bool false)], args := [d] }
  | _ => none }
def FnDiffPartsWrongFalsely : Prop := fnDiffPartsRow.holds Try.pinned (OpenSpec.ofChange fnDiffPartsWrong)

/-- 'laws.FnExactRepliesRight': WHATEVER THE INPUT: true; the input reads as it did. -/
def fnExactRepliesRightSpec : ChangeSpec := { name := "fnExactRepliesRight", fn := fun _ => fun
  | [d1, d2] => { results := [.lit (.bool true)], args := [d1, d2] }
  | _ => none }
def fnExactRepliesRightRow : OpenClaim := { program := "ytfeeifefmenlmaa", sum := "dfe214d6df41b85b7e0c0ce99c148fadd5063bc058d44364b29b69c11af55f82", func := "loop.example/rangechains/laws.FnExactRepliesRight", spec := "fnExactRepliesRight", unfollowed := true, recurses := true, apart := false }
def FnExactRepliesRightSaid : Prop := fnExactRepliesRightRow.holds Try.pinned (OpenSpec.ofChange fnExactRepliesRightSpec)

/-- ITS FALSE NEIGHBOUR: 'it returns false'. Refute it at one input. -/
def fnExactRepliesRightWrong : ChangeSpec := { name := "fnExactRepliesRight", fn := fun _ => fun
  | [d1, d2] => { results := [.lit (.bool false)], args := [d1, d2] }
  | _ => none }
def FnExactRepliesRightWrongFalsely : Prop := fnExactRepliesRightRow.holds Try.pinned (OpenSpec.ofChange fnExactRepliesRightWrong)

/- THE SECOND FORM. 'bulk': how many values and letters a reading holds, each counted each time it is reached (what is shared counts as often as it is met; a slice's spare places count too). A statement '..UptoSaid' is the law's where the arguments, and the package variables that the reading takes, are together of bulk at most 1048576: NARROWER than '..Said'. Prove '..Said' where nothing that the law and all that it calls make is longer than what came in: it says more and counts as full. Else prove '..UptoSaid'. A law counts once. -/
mutual
def uptoBulk {H : Type} : DataW H → Nat
  | .lit (.string bytes) => bytes.length + 1
  | .lit _ => 1
  | .nil => 1
  | .ptr d => uptoBulk d + 1
  | .slice elems spare => uptoBulkAll elems + uptoBulkAll spare + 1
  | .agg parts => uptoBulkAll parts + 1
  | .iface _ d => uptoBulk d + 1
  | .map entries => uptoBulkEntries entries + 1
  | .held _ => 1
def uptoBulkAll {H : Type} : List (DataW H) → Nat
  | [] => 0
  | d :: r => uptoBulk d + uptoBulkAll r
def uptoBulkEntries {H : Type} : List (Lit × DataW H) → Nat
  | [] => 0
  | x :: r => uptoBulkEntry x + uptoBulkEntries r
def uptoBulkEntry {H : Type} : Lit × DataW H → Nat
  | (.string bytes, d) => bytes.length + uptoBulk d + 1
  | (_, d) => uptoBulk d + 1
 end
def uptoSmall : (H : Type) → List (DataW H) → Bool := fun _ ds => decide (uptoBulkAll ds ≤ 1048576)
def OpenSpec.upto (s : _root_.Go.ChangeSpec) : _root_.Go.OpenSpec := { _root_.Go.OpenSpec.ofChange s with cond := some uptoSmall }

/-- 'laws.FnPairsDigest', WHERE WHAT IT READS IS OF BULK AT MOST 1048576: true; the input reads as it did. -/
def fnPairsDigestUptoRow : OpenClaim := { program := "ytfeeifefmenlmaa", sum := "dfe214d6df41b85b7e0c0ce99c148fadd5063bc058d44364b29b69c11af55f82", func := "loop.example/rangechains/laws.FnPairsDigest", spec := "fnPairsDigest", recurses := true, apart := false, narrowed := true }
def FnPairsDigestUptoSaid : Prop := fnPairsDigestUptoRow.holds Try.pinned (OpenSpec.upto fnPairsDigestSpec)

/-- 'laws.FnRealTime', WHERE WHAT IT READS IS OF BULK AT MOST 1048576: true; the input reads as it did. -/
def fnRealTimeUptoRow : OpenClaim := { program := "ytfeeifefmenlmaa", sum := "dfe214d6df41b85b7e0c0ce99c148fadd5063bc058d44364b29b69c11af55f82", func := "loop.example/rangechains/laws.FnRealTime", spec := "fnRealTime", recurses := true, apart := false, narrowed := true }
def FnRealTimeUptoSaid : Prop := fnRealTimeUptoRow.holds Try.pinned (OpenSpec.upto fnRealTimeSpec)

/-- 'laws.FnExactApplyFeed', WHERE WHAT IT READS IS OF BULK AT MOST 1048576: true; the input reads as it did. -/
def fnExactApplyFeedUptoRow : OpenClaim := { program := "ytfeeifefmenlmaa", sum := "dfe214d6df41b85b7e0c0ce99c148fadd5063bc058d44364b29b69c11af55f82", func := "loop.example/rangechains/laws.FnExactApplyFeed", spec := "fnExactApplyFeed", unfollowed := true, recurses := true, apart := false, narrowed := true }
def FnExactApplyFeedUptoSaid : Prop := fnExactApplyFeedUptoRow.holds Try.pinned (OpenSpec.upto fnExactApplyFeedSpec)

/-- 'laws.FnPartDigests', WHERE WHAT IT READS IS OF BULK AT MOST 1048576: true; the input reads as it did. -/
def fnPartDigestsUptoRow : OpenClaim := { program := "ytfeeifefmenlmaa", sum := "dfe214d6df41b85b7e0c0ce99c148fadd5063bc058d44364b29b69c11af55f82", func := "loop.example/rangechains/laws.FnPartDigests", spec := "fnPartDigests", unfollowed := true, recurses := true, apart := false, narrowed := true }
def FnPartDigestsUptoSaid : Prop := fnPartDigestsUptoRow.holds Try.pinned (OpenSpec.upto fnPartDigestsSpec)

/-- 'laws.FnExactPartDigests', WHERE WHAT IT READS IS OF BULK AT MOST 1048576: true; the input reads as it did. -/
def fnExactPartDigestsUptoRow : OpenClaim := { program := "ytfeeifefmenlmaa", sum := "dfe214d6df41b85b7e0c0ce99c148fadd5063bc058d44364b29b69c11af55f82", func := "loop.example/rangechains/laws.FnExactPartDigests", spec := "fnExactPartDigests", unfollowed := true, recurses := true, apart := false, narrowed := true }
def FnExactPartDigestsUptoSaid : Prop := fnExactPartDigestsUptoRow.holds Try.pinned (OpenSpec.upto fnExactPartDigestsSpec)

/-- 'laws.FnExactDiffParts', WHERE WHAT IT READS IS OF BULK AT MOST 1048576: true; the input reads as it did. -/
def fnExactDiffPartsUptoRow : OpenClaim := { program := "ytfeeifefmenlmaa", sum := "dfe214d6df41b85b7e0c0ce99c148fadd5063bc058d44364b29b69c11af55f82", func := "loop.example/rangechains/laws.FnExactDiffParts", spec := "fnExactDiffParts", unfollowed := true, recurses := true, apart := false, narrowed := true }
def FnExactDiffPartsUptoSaid : Prop := fnExactDiffPartsUptoRow.holds Try.pinned (OpenSpec.upto fnExactDiffPartsSpec)

/-- 'laws.FnFeedValid', WHERE WHAT IT READS IS OF BULK AT MOST 1048576: true; the input reads as it did. -/
def fnFeedValidUptoRow : OpenClaim := { program := "ytfeeifefmenlmaa", sum := "dfe214d6df41b85b7e0c0ce99c148fadd5063bc058d44364b29b69c11af55f82", func := "loop.example/rangechains/laws.FnFeedValid", spec := "fnFeedValid", recurses := true, apart := false, narrowed := true }
def FnFeedValidUptoSaid : Prop := fnFeedValidUptoRow.holds Try.pinned (OpenSpec.upto fnFeedValidSpec)

/-- 'laws.FnFeedFrom', WHERE WHAT IT READS IS OF BULK AT MOST 1048576: true; the input reads as it did. -/
def fnFeedFromUptoRow : OpenClaim := { program := "ytfeeifefmenlmaa", sum := "dfe214d6df41b85b7e0c0ce99c148fadd5063bc058d44364b29b69c11af55f82", func := "loop.example/rangechains/laws.FnFeedFrom", spec := "fnFeedFrom", recurses := true, apart := false, narrowed := true }
def FnFeedFromUptoSaid : Prop := fnFeedFromUptoRow.holds Try.pinned (OpenSpec.upto fnFeedFromSpec)

/-- 'laws.FnUndoFeed', WHERE WHAT IT READS IS OF BULK AT MOST 1048576: true; the input reads as it did. -/
def fnUndoFeedUptoRow : OpenClaim := { program := "ytfeeifefmenlmaa", sum := "dfe214d6df41b85b7e0c0ce99c148fadd5063bc058d44364b29b69c11af55f82", func := "loop.example/rangechains/laws.FnUndoFeed", spec := "fnUndoFeed", recurses := true, apart := false, narrowed := true }
def FnUndoFeedUptoSaid : Prop := fnUndoFeedUptoRow.holds Try.pinned (OpenSpec.upto fnUndoFeedSpec)

/-- 'laws.FnDiffParts', WHERE WHAT IT READS IS OF BULK AT MOST 1048576: true; the input reads as it did. -/
def fnDiffPartsUptoRow : OpenClaim := { program := "ytfeeifefmenlmaa", sum := "dfe214d6df41b85b7e0c0ce99c148fadd5063bc058d44364b29b69c11af55f82", func := "loop.example/rangechains/laws.FnDiffParts", spec := "fnDiffParts", unfollowed := true, recurses := true, apart := false, narrowed := true }
def FnDiffPartsUptoSaid : Prop := fnDiffPartsUptoRow.holds Try.pinned (OpenSpec.upto fnDiffPartsSpec)

/-- 'laws.FnExactRepliesRight', WHERE WHAT IT READS IS OF BULK AT MOST 1048576: true; the input reads as it did. -/
def fnExactRepliesRightUptoRow : OpenClaim := { program := "ytfeeifefmenlmaa", sum := "dfe214d6df41b85b7e0c0ce99c148fadd5063bc058d44364b29b69c11af55f82", func := "loop.example/rangechains/laws.FnExactRepliesRight", spec := "fnExactRepliesRight", unfollowed := true, recurses := true, apart := false, narrowed := true }
def FnExactRepliesRightUptoSaid : Prop := fnExactRepliesRightUptoRow.holds Try.pinned (OpenSpec.upto fnExactRepliesRightSpec)

end Rows
end Go.Proofs.Ytfeeifefmenlmaa

-- Written by a program of this session, in the manner of the kit's print (wip/pp.py): functions and their contracts.
import Derived.Test.YtkejaolfbejokaaProg
import Derived.Below
import Derived.Deep.Draws
import Derived.Deep.AppendLies
import Derived.Maps.AppendAt
import Derived.OwnWalk
import Derived.Laws.BytesArg
import Derived.Laws.MakeOwn
import Derived.Laws.OwnMore
import Derived.Deep.OwnRows
import Derived.Tactics
import Derived.Lib.ConvBytes
import Derived.Laws.Slices
import Derived.WalkKit
import Derived.KernelRfl
import Derived.RowKit3
import Derived.Deep.LoopGhost
import Derived.Deep.QuietTactic
import Derived.BigQuiet
import Derived.WideLaws
import Derived.Deep.DeepCutAuto
import Derived.Deep.CutBlock
import Derived.Deep.RegionHeld3
import Derived.Laws.Rows
import Derived.Lib.AppendStr
import Derived.ArgAppend
import Derived.Laws.IdiomCopy
import Derived.OrdersHeld
import Derived.Laws.BitsLemmas
import Derived.RowKit
import Derived.Test.YtkejaolfbejokaaWWords
import Derived.Test.YtkejaolfbejokaaWLast
import Derived.Test.YtkejaolfbejokaaWTab
import Derived.Test.YtkejaolfbejokaaWFour
import Derived.Test.YtkejaolfbejokaaWQPut
import Derived.Test.YtkejaolfbejokaaWApart
import Derived.Test.YtkejaolfbejokaaWArr
import Derived.Test.YtkejaolfbejokaaWZeros
import Derived.Test.YtkejaolfbejokaaWFoot
import Derived.Test.YtkejaolfbejokaaWKept
import Derived.Test.YtkejaolfbejokaaWShare
import Derived.Test.YtkejaolfbejokaaWN
import Derived.Test.YtkejaolfbejokaaWFootNe
import Derived.Test.YtkejaolfbejokaaWAt
import Derived.Test.YtkejaolfbejokaaWEqStruct
import Derived.Test.YtkejaolfbejokaaWRepsOne
import Derived.Test.YtkejaolfbejokaaWInv
import Derived.Test.YtkejaolfbejokaaWInvWords
import Derived.Test.YtkejaolfbejokaaWGuard
import Derived.Test.YtkejaolfbejokaaWNEv
import Derived.Test.YtkejaolfbejokaaWMore
import Derived.Test.YtkejaolfbejokaaX
namespace Go.Proofs.Ytkejaolfbejokaa.PFnPairDigest
open Go.RowKit Go.Proofs.YtkejaolfbejokaaW.PrintWords Go.Proofs.YtkejaolfbejokaaW.PrintLast Go.Proofs.YtkejaolfbejokaaW.PrintMore
attribute [local go_sem] binOp_leq_str binOp_gtr_str max2_int min2_int max_two min_two max_three min_three max_four min_four   -- for this text's walks alone
set_option linter.unusedVariables false
set_option linter.unusedSimpArgs false



def errW : Option Int → Value
  | none => .nilIface
  | some c => .iface 0 (.int .i64 c)
theorem errW_none : errW none = .nilIface := rfl
theorem errW_some (c : Int) : errW (some c) = .iface 0 (.int .i64 c) := rfl

theorem info3 : (Try.prog.info? 3).map (fun i => (i.zero, i.size, i.bytes)) = some (some (.int .i64 0), 1, 8) := by kernel_rfl
theorem info5 : (Try.prog.info? 5).map (fun i => (i.zero, i.size, i.bytes)) = some (some (.int .u8 0), 1, 1) := by kernel_rfl
theorem info9 : (Try.prog.info? 9).map (fun i => (i.zero, i.size, i.bytes)) = some (some (.string ⟨#[]⟩), 1, 16) := by kernel_rfl
-- the values' own types

end Go.Proofs.Ytkejaolfbejokaa.PFnPairDigest

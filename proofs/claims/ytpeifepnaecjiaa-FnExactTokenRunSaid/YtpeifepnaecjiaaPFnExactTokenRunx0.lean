-- Written by a program of this session, in the manner of the kit's print (wip/pp.py): functions and their contracts.
import Derived.Test.YtpeifepnaecjiaaProg
import Derived.Below
import Derived.Deep.Draws
import Derived.Deep.AppendLies
import Derived.Maps.AppendAt
import Derived.OwnWalk
import Derived.Laws.BytesArg
import Derived.Laws.MakeOwn
import Derived.Laws.OwnMore
import Derived.Deep.OwnRows
import Derived.Tactics
import Derived.Lib.ConvBytes
import Derived.Laws.Slices
import Derived.WalkKit
import Derived.KernelRfl
import Derived.RowKit3
import Derived.Deep.LoopGhost
import Derived.Deep.QuietTactic
import Derived.BigQuiet
import Derived.WideLaws
import Derived.Deep.DeepCutAuto
import Derived.Deep.CutBlock
import Derived.Deep.RegionHeld3
import Derived.Laws.Rows
import Derived.Lib.AppendStr
import Derived.ArgAppend
import Derived.Laws.IdiomCopy
import Derived.OrdersHeld
import Derived.Laws.BitsLemmas
import Derived.RowKit
import Derived.Test.YtpeifepnaecjiaaWWords
import Derived.Test.YtpeifepnaecjiaaWLast
import Derived.Test.YtpeifepnaecjiaaWTab
import Derived.Test.YtpeifepnaecjiaaWFour
import Derived.Test.YtpeifepnaecjiaaWQPut
import Derived.Test.YtpeifepnaecjiaaWApart
import Derived.Test.YtpeifepnaecjiaaWArr
import Derived.Test.YtpeifepnaecjiaaWZeros
import Derived.Test.YtpeifepnaecjiaaWFoot
import Derived.Test.YtpeifepnaecjiaaWKept
import Derived.Test.YtpeifepnaecjiaaWShare
import Derived.Test.YtpeifepnaecjiaaWN
import Derived.Test.YtpeifepnaecjiaaWFootNe
import Derived.Test.YtpeifepnaecjiaaWAt
import Derived.Test.YtpeifepnaecjiaaWEqStruct
import Derived.Test.YtpeifepnaecjiaaWRepsOne
import Derived.Test.YtpeifepnaecjiaaWInv
import Derived.Test.YtpeifepnaecjiaaWInvWords
import Derived.Test.YtpeifepnaecjiaaWGuard
import Derived.Test.YtpeifepnaecjiaaWNEv
import Derived.Test.YtpeifepnaecjiaaWMore
import Derived.Test.YtpeifepnaecjiaaX
namespace Go.Proofs.Ytpeifepnaecjiaa.PFnExactTokenRun
open Go.RowKit Go.Proofs.YtpeifepnaecjiaaW.PrintWords Go.Proofs.YtpeifepnaecjiaaW.PrintLast Go.Proofs.YtpeifepnaecjiaaW.PrintMore
attribute [local go_sem] binOp_leq_str binOp_gtr_str binOp_geq_str max2_int min2_int max_two min_two max_three min_three max_four min_four   -- for this text's walks alone
set_option linter.unusedVariables false
set_option linter.unusedSimpArgs false



def errW : Option Int → Value
  | none => .nilIface
  | some c => .iface 0 (.int .i64 c)
theorem errW_none : errW none = .nilIface := rfl
theorem errW_some (c : Int) : errW (some c) = .iface 0 (.int .i64 c) := rfl

theorem info4 : (Try.prog.info? 4).map (fun i => (i.zero, i.size, i.bytes)) = some (some (.bool false), 1, 1) := by kernel_rfl
-- the values' own types

end Go.Proofs.Ytpeifepnaecjiaa.PFnExactTokenRun

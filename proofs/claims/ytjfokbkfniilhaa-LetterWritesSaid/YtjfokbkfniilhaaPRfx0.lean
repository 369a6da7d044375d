/- Contracts of Go functions and what each computes, as plain Lean functions: written by a program of this session over the kit's own print. Conditions: those that each theorem names. -/
import Derived.Test.YtjfokbkfniilhaaProg
import Derived.Below
import Derived.Deep.Draws
import Derived.Deep.AppendLies
import Derived.Maps.AppendAt
import Derived.OwnWalk
import Derived.Laws.BytesArg
import Derived.Laws.MakeOwn
import Derived.Laws.OwnMore
import Derived.Deep.OwnRows
import Derived.Tactics
import Derived.Lib.ConvBytes
import Derived.Laws.Slices
import Derived.WalkKit
import Derived.KernelRfl
import Derived.RowKit3
import Derived.Deep.LoopGhost
import Derived.Deep.QuietTactic
import Derived.BigQuiet
import Derived.WideLaws
import Derived.Deep.DeepCutAuto
import Derived.Deep.CutBlock
import Derived.Deep.RegionHeld3
import Derived.Laws.Rows
import Derived.Lib.AppendStr
import Derived.ArgAppend
import Derived.Laws.IdiomCopy
import Derived.OrdersHeld
import Derived.Laws.BitsLemmas
import Derived.RowKit
import Derived.Test.YtjfokbkfniilhaaWWords
import Derived.Test.YtjfokbkfniilhaaWLast
import Derived.Test.YtjfokbkfniilhaaWTab
import Derived.Test.YtjfokbkfniilhaaWQPut
import Derived.Test.YtjfokbkfniilhaaWApart
import Derived.Test.YtjfokbkfniilhaaWArr
import Derived.Test.YtjfokbkfniilhaaWZeros
import Derived.Test.YtjfokbkfniilhaaWFoot
import Derived.Test.YtjfokbkfniilhaaWKept
import Derived.Test.YtjfokbkfniilhaaWShare
import Derived.Test.YtjfokbkfniilhaaWN
import Derived.Test.YtjfokbkfniilhaaWFootNe
import Derived.Test.YtjfokbkfniilhaaWEqStruct
import Derived.Test.YtjfokbkfniilhaaWRepsOne
import Derived.Test.YtjfokbkfniilhaaWGuard
import Derived.Test.YtjfokbkfniilhaaWNEv
import Derived.Test.YtjfokbkfniilhaaWMore
namespace Go.Proofs.Ytjfokbkfniilhaa.PRf
open Go.RowKit Go.Proofs.YtjfokbkfniilhaaW.PrintWords Go.Proofs.YtjfokbkfniilhaaW.PrintLast Go.Proofs.YtjfokbkfniilhaaW.PrintMore
attribute [local go_sem] max2_int min2_int max_two min_two max_three min_three max_four min_four   -- for this text's walks alone
set_option linter.unusedVariables false
set_option linter.unusedSimpArgs false



def errW : Option Int → Value
  | none => .nilIface
  | some c => .iface 0 (.int .i64 c)
theorem errW_none : errW none = .nilIface := rfl
theorem errW_some (c : Int) : errW (some c) = .iface 0 (.int .i64 c) := rfl

theorem info5 : (Try.prog.info? 5).map (fun i => (i.zero, i.size, i.bytes)) = some (some (.int .u8 0), 1, 1) := by kernel_rfl
-- the values' own types

end Go.Proofs.Ytjfokbkfniilhaa.PRf

/- Contracts of Go functions and what each computes, as plain Lean functions: written by a program of this session over the kit's own print. Conditions: those that each theorem names. -/
import Derived.Test.YtapgmedfedcliaaNx
import Derived.Test.YtapgmedfedcliaaProg
import Derived.Below
import Derived.Deep.Draws
import Derived.Deep.AppendLies
import Derived.Maps.AppendAt
import Derived.OwnWalk
import Derived.Laws.BytesArg
import Derived.Laws.MakeOwn
import Derived.Laws.OwnMore
import Derived.Deep.OwnRows
import Derived.Tactics
import Derived.Lib.ConvBytes
import Derived.Laws.Slices
import Derived.WalkKit
import Derived.KernelRfl
import Derived.RowKit3
import Derived.Deep.LoopGhost
import Derived.Deep.QuietTactic
import Derived.BigQuiet
import Derived.WideLaws
import Derived.Deep.DeepCutAuto
import Derived.Deep.CutBlock
import Derived.Deep.RegionHeld3
import Derived.Laws.Rows
import Derived.Lib.AppendStr
import Derived.ArgAppend
import Derived.Laws.IdiomCopy
import Derived.OrdersHeld
import Derived.Laws.BitsLemmas
import Derived.RowKit
import Derived.Test.YtapgmedfedcliaaWWords
import Derived.Test.YtapgmedfedcliaaWLast
import Derived.Test.YtapgmedfedcliaaWTab
import Derived.Test.YtapgmedfedcliaaWFour
import Derived.Test.YtapgmedfedcliaaWQPut
import Derived.Test.YtapgmedfedcliaaWApart
import Derived.Test.YtapgmedfedcliaaWArr
import Derived.Test.YtapgmedfedcliaaWZeros
import Derived.Test.YtapgmedfedcliaaWFoot
import Derived.Test.YtapgmedfedcliaaWKept
import Derived.Test.YtapgmedfedcliaaWShare
import Derived.Test.YtapgmedfedcliaaWN
import Derived.Test.YtapgmedfedcliaaWFootNe
import Derived.Test.YtapgmedfedcliaaWAt
import Derived.Test.YtapgmedfedcliaaWEqStruct
import Derived.Test.YtapgmedfedcliaaWRepsOne
import Derived.Test.YtapgmedfedcliaaWInv
import Derived.Test.YtapgmedfedcliaaWInvWords
import Derived.Test.YtapgmedfedcliaaWGuard
import Derived.Test.YtapgmedfedcliaaWNEv
import Derived.Test.YtapgmedfedcliaaWMore
namespace Go.Proofs.Ytapgmedfedcliaa.PLa
open Go.Proofs.Ytapgmedfedcliaa
open Go.RowKit Go.Proofs.YtapgmedfedcliaaW.PrintWords Go.Proofs.YtapgmedfedcliaaW.PrintLast Go.Proofs.YtapgmedfedcliaaW.PrintMore
attribute [local go_sem] max2_int min2_int max_two min_two max_three min_three max_four min_four   -- for this text's walks alone
set_option linter.unusedVariables false
set_option linter.unusedSimpArgs false



def errW : Option Int → Value
  | none => .nilIface
  | some c => .iface 0 (.int .i64 c)
theorem errW_none : errW none = .nilIface := rfl
theorem errW_some (c : Int) : errW (some c) = .iface 0 (.int .i64 c) := rfl

theorem info5 : (Try.prog.info? 5).map (fun i => (i.zero, i.size, i.bytes)) = some (some (.int .u8 0), 1, 1) := by kernel_rfl
-- the values' own types

end Go.Proofs.Ytapgmedfedcliaa.PLa

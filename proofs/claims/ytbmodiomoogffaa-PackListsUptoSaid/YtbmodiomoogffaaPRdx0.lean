/- Contracts of Go functions and what each computes, as plain Lean functions: written by a program of this session over the kit's own print. Conditions: those that each theorem names. -/
import Derived.Test.YtbmodiomoogffaaProg
import Derived.Below
import Derived.Deep.Draws
import Derived.Deep.AppendLies
import Derived.Maps.AppendAt
import Derived.OwnWalk
import Derived.Laws.BytesArg
import Derived.Laws.MakeOwn
import Derived.Laws.OwnMore
import Derived.Deep.OwnRows
import Derived.Tactics
import Derived.Lib.ConvBytes
import Derived.Laws.Slices
import Derived.WalkKit
import Derived.KernelRfl
import Derived.RowKit3
import Derived.Deep.LoopGhost
import Derived.Deep.QuietTactic
import Derived.BigQuiet
import Derived.WideLaws
import Derived.Deep.DeepCutAuto
import Derived.Deep.CutBlock
import Derived.Deep.RegionHeld3
import Derived.Laws.Rows
import Derived.Lib.AppendStr
import Derived.ArgAppend
import Derived.Laws.IdiomCopy
import Derived.OrdersHeld
import Derived.Laws.BitsLemmas
import Derived.RowKit
import Derived.Test.YtbmodiomoogffaaWWords
import Derived.Test.YtbmodiomoogffaaWLast
import Derived.Test.YtbmodiomoogffaaWTab
import Derived.Test.YtbmodiomoogffaaWFour
import Derived.Test.YtbmodiomoogffaaWQPut
import Derived.Test.YtbmodiomoogffaaWApart
import Derived.Test.YtbmodiomoogffaaWArr
import Derived.Test.YtbmodiomoogffaaWZeros
import Derived.Test.YtbmodiomoogffaaWFoot
import Derived.Test.YtbmodiomoogffaaWKept
import Derived.Test.YtbmodiomoogffaaWShare
import Derived.Test.YtbmodiomoogffaaWN
import Derived.Test.YtbmodiomoogffaaWFootNe
import Derived.Test.YtbmodiomoogffaaWAt
import Derived.Test.YtbmodiomoogffaaWEqStruct
import Derived.Test.YtbmodiomoogffaaWRepsOne
import Derived.Test.YtbmodiomoogffaaWInv
import Derived.Test.YtbmodiomoogffaaWInvWords
import Derived.Test.YtbmodiomoogffaaWGuard
import Derived.Test.YtbmodiomoogffaaWNEv
import Derived.Test.YtbmodiomoogffaaWMore
namespace Go.Proofs.Ytbmodiomoogffaa.PRd
open Go.RowKit Go.Proofs.YtbmodiomoogffaaW.PrintWords Go.Proofs.YtbmodiomoogffaaW.PrintLast Go.Proofs.YtbmodiomoogffaaW.PrintMore
attribute [local go_sem] max2_int min2_int max_two min_two max_three min_three max_four min_four   -- for this text's walks alone
set_option linter.unusedVariables false
set_option linter.unusedSimpArgs false



def errW : Option Int → Value
  | none => .nilIface
  | some c => .iface 0 (.int .i64 c)
theorem errW_none : errW none = .nilIface := rfl
theorem errW_some (c : Int) : errW (some c) = .iface 0 (.int .i64 c) := rfl

-- the values' own types

end Go.Proofs.Ytbmodiomoogffaa.PRd

/- Contracts of Go functions and what each computes, as plain Lean functions: written by a program of this session over the kit's own print. Conditions: those that each theorem names. -/
import Derived.Test.YtbmodiomoogffaaPRtx0
import Derived.Test.YtbmodiomoogffaaPRtx1
namespace Go.Proofs.Ytbmodiomoogffaa.PRt
open Go.Proofs.Ytbmodiomoogffaa Go.Proofs.Ytbmodiomoogffaa.PRd
open Go.RowKit Go.Proofs.YtbmodiomoogffaaW.PrintWords Go.Proofs.YtbmodiomoogffaaW.PrintLast Go.Proofs.YtbmodiomoogffaaW.PrintMore
attribute [local go_sem] max2_int min2_int max_two min_two max_three min_three max_four min_four   -- for this text's walks alone
set_option linter.unusedVariables false
set_option linter.unusedSimpArgs false

end Go.Proofs.Ytbmodiomoogffaa.PRt

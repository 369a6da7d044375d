/- Contracts of Go functions and what each computes, as plain Lean functions: written by a program of this session over the kit's own print. Conditions: those that each theorem names. -/
import Derived.Test.YtapgmedfedcliaaPFrx0
import Derived.Test.YtapgmedfedcliaaPFrx1
import Derived.Test.YtapgmedfedcliaaPFrx2
namespace Go.Proofs.Ytapgmedfedcliaa.PFr
open Go.Proofs.Ytapgmedfedcliaa Go.Proofs.Ytapgmedfedcliaa.PRd
open Go.RowKit Go.Proofs.YtapgmedfedcliaaW.PrintWords Go.Proofs.YtapgmedfedcliaaW.PrintLast Go.Proofs.YtapgmedfedcliaaW.PrintMore
attribute [local go_sem] max2_int min2_int max_two min_two max_three min_three max_four min_four   -- for this text's walks alone
set_option linter.unusedVariables false
set_option linter.unusedSimpArgs false

end Go.Proofs.Ytapgmedfedcliaa.PFr

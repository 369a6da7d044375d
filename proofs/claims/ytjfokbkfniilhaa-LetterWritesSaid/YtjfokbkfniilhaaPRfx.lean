/- Contracts of Go functions and what each computes, as plain Lean functions: written by a program of this session over the kit's own print. Conditions: those that each theorem names. -/
import Derived.Test.YtjfokbkfniilhaaPRfx0
import Derived.Test.YtjfokbkfniilhaaPRfx1
namespace Go.Proofs.Ytjfokbkfniilhaa.PRf
open Go.RowKit Go.Proofs.YtjfokbkfniilhaaW.PrintWords Go.Proofs.YtjfokbkfniilhaaW.PrintLast Go.Proofs.YtjfokbkfniilhaaW.PrintMore
attribute [local go_sem] max2_int min2_int max_two min_two max_three min_three max_four min_four   -- for this text's walks alone
set_option linter.unusedVariables false
set_option linter.unusedSimpArgs false

end Go.Proofs.Ytjfokbkfniilhaa.PRf

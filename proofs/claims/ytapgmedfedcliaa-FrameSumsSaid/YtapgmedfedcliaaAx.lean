/- The look ahead of each of the frame's laws (awake) answers true. No condition. -/
import Derived.Test.YtapgmedfedcliaaPLax
import Derived.Test.YtapgmedfedcliaaFp
set_option linter.unusedVariables false
set_option linter.unusedSimpArgs false
namespace Go.Proofs.Ytapgmedfedcliaa
open Go.RowKit Go.Proofs.YtapgmedfedcliaaW.PrintWords PRd PFr PLa

theorem awake_f : dovecotelaw03_awake.f = some true := by decide +kernel
theorem awake_calls (w : World) : Calls Try.prog 9 #[] w fun e w' => e = .returned (.bool true) ∧ Below w.heap.size w w' :=
  dovecotelaw03_awake.calls true w awake_f
end Go.Proofs.Ytapgmedfedcliaa

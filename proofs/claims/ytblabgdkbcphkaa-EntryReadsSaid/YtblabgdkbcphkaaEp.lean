/- The document's Write is entry's. Conditions: those that each theorem names. -/
import Derived.Test.YtblabgdkbcphkaaEo
import Derived.Test.YtblabgdkbcphkaaEm
set_option linter.unusedVariables false
set_option linter.unusedSimpArgs false
set_option linter.constructorNameAsVariable false
namespace Go.Proofs.Ytblabgdkbcphkaa
open Go.RowKit Go.Deep Go.Proofs.YtblabgdkbcphkaaW.PrintWords Go.Proofs.Ytblabgdkbcphkaa.PEs Go.Proofs.Ytblabgdkbcphkaa.PRd
/-- A string that a call answers, whatever was made since. -/
theorem pack {w0 : World} {f : Nat} {vs : Array Value} {x : ByteArray} (m : Nat) (hm : x.size ≤ m) (h : ∀ W, Calls Try.prog f vs W fun e w' => e = .returned (.string x) ∧ Below W.heap.size W w') :
    ∃ t, x = t ∧ t.size ≤ m ∧ Hid (∀ W, Below w0.heap.size w0 W → Calls Try.prog f vs W fun e w' => e = .returned (.string t) ∧ Below w0.heap.size w0 w') :=
  ⟨x, rfl, hm, Lib.hid (fun W hb => (h W).mono fun _ _ ⟨h1, h2⟩ => ⟨h1, bel_then hb h2⟩)⟩
end Go.Proofs.Ytblabgdkbcphkaa

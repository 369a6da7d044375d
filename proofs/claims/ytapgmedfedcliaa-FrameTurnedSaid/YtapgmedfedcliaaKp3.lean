/- What a call of a Writer keeps of a Reader, and the other way round. Conditions: those that each theorem names. -/
import Derived.Test.YtapgmedfedcliaaRz3
import Derived.Test.YtapgmedfedcliaaWt
set_option linter.unusedVariables false
set_option linter.unusedSimpArgs false
namespace Go.Proofs.Ytapgmedfedcliaa
open Go.RowKit Go.Proofs.YtapgmedfedcliaaW.PrintWords PRd

/-- A Reader behind a call of a Writer. -/
theorem rd_keepW {w0 w w' : World} {g r : Nat} {s t : ByteArray} {er : Int} (hk : KeepW w w' g) (hW : IsS60 w0 w g s) (hR : IsS65 w0 w r t er) : IsS65 w0 w' r t er := by
  refine ⟨(hk.block hW r ?_ hR.1 (by decide)).trans hR.1, hR.2⟩
  rintro rfl
  obtain ⟨v, h1, _⟩ := hW
  have h2 := hR.1
  rw [h1] at h2
  simp at h2
/-- A Writer behind a call of a Reader. -/
theorem wr_keepR {w0 w w' : World} {g r : Nat} {s t : ByteArray} {er : Int} (hk : KeepBut w w' r none) (hR : IsS65 w0 w r t er) (hW : IsS60 w0 w g s) : IsS60 w0 w' g s :=
  hW.keep hk hR.1 (by decide) (by decide)

/-- Another block behind a call of a Reader. -/
theorem blk_keepR {w0 w w' : World} {x r : Nat} {t : ByteArray} {er : Int} {cs : Array Value} {ty : TypeId} {fr : Nat × Nat} (hk : KeepBut w w' r none) (hR : IsS65 w0 w r t er) (hX : w.heap[x]? = some (.cells cs ty fr)) (h1 : ty ≠ 65) : w'.heap[x]? = some (.cells cs ty fr) := by
  refine (hk.2 x (Array.getElem?_eq_some_iff.1 hX).1 ?_ (by simp)).trans hX
  rintro rfl
  have h2 := hR.1
  rw [hX] at h2
  injection h2 with h2
  injection h2 with _ h3
  exact h1 h3
/-- Another block behind a call of a Writer. -/
theorem blk_keepW {w0 w w' : World} {x g : Nat} {s : ByteArray} {cs : Array Value} {ty : TypeId} {fr : Nat × Nat} (hk : KeepW w w' g) (hW : IsS60 w0 w g s) (hX : w.heap[x]? = some (.cells cs ty fr)) (h1 : ty ≠ 60) (h2 : ty ≠ 5) : w'.heap[x]? = some (.cells cs ty fr) := by
  refine (hk.block hW x ?_ hX h2).trans hX
  rintro rfl
  obtain ⟨v, h3, _⟩ := hW
  rw [h3] at hX
  injection hX with hX
  injection hX with _ h4
  exact h1 h4.symm

end Go.Proofs.Ytapgmedfedcliaa

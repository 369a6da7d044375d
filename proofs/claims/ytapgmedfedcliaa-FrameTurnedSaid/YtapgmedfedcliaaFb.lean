/- frame.body: a payload's length and the payload. Condition: how long it is at most. -/
import Derived.Test.YtapgmedfedcliaaKp3
import Derived.Deep.LoopGhost
set_option linter.unusedVariables false
set_option linter.unusedSimpArgs false
namespace Go.Proofs.Ytapgmedfedcliaa
open Go.RowKit Go.Proofs.YtapgmedfedcliaaW.PrintWords

/-- A payload's length and the payload. -/
def encT (p : ByteArray) : ByteArray := encB p.size ++ p
set_option maxRecDepth 100000 in
set_option maxHeartbeats 4000000 in
theorem body_calls (p : ByteArray) (hp : p.size ≤ 140737488355000) (w : World) : Calls Try.prog 19 #[.string p] w fun e w' => e = .returned (.string (encT p)) ∧ Below w.heap.size w w' := by
  have HW1 := Lib.hid (IsS60.made w w (Nat.le_refl _))
  have HB1 := Lib.hid (below_alloc' (Below.refl w.heap.size w) (.cells #[.slice none 0 0] 60))
  have HE : Hid (ByteArray.empty ++ encB p.size ++ p = encT p) := by show _ = encB p.size ++ p; rw [ByteArray.empty_append]
  go_enter Try.func19, Try.ntmps19
  go_wp2_with fail
  generalize w.alloc (.cells #[.slice none 0 0] 60) = w1 at *
  refine (wtext w _ w.heap.size _ p HW1.out HB1.out (by show 0 + 9 + p.size ≤ _; omega)).mono ?_
  rintro e w2 ⟨rfl, hW, hB, hk⟩
  rw [HE.out] at hW
  have HW2 := Lib.hid hW
  have HB2 := Lib.hid hB
  clear hW hB hk HW1 HB1
  go_wp2_with fail
  refine (wbytes w _ w.heap.size _ HW2.out HB2.out).mono ?_
  rintro e w3 ⟨rfl, hW, hB, hk⟩
  have HB3 := Lib.hid hB
  clear hW hB hk HW2 HB2
  go_wp2
  go_ret
  exact ⟨rfl, HB3.out⟩
end Go.Proofs.Ytapgmedfedcliaa

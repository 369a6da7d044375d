/- A shard's node (place.Node): the plain answer. No condition beside the integers' own range. -/
import Derived.Test.YtbodaohbmekekaaAwake
set_option linter.unusedVariables false
set_option linter.unusedSimpArgs false
namespace Go.Proofs.Ytbodaohbmekekaa
open Go.RowKit Go.Proofs.YtbodaohbmekekaaW.PrintWords

theorem node_yes (a n : Int) (w : World) (h : 0 ≤ a ∧ a < 8 ∧ 1 ≤ n ∧ n ≤ 4) :
    Calls Try.prog 13 #[.int .i64 a, .int .i64 n] w fun e w' => e = .returned (.tuple #[.int .i64 (a % n), .int .i64 0]) ∧ Drawn0 w w' := by
  obtain ⟨h1, h2, h3, h4⟩ := h
  go_enter Try.func13, Try.ntmps13
  go_wp2
  go_ret2
  exact ⟨rfl, by repeat (first | exact Drawn0.refl _ | apply Drawn0.step)⟩
theorem node_no (a n : Int) (w : World) (h : a < 0 ∨ 8 ≤ a ∨ n < 1 ∨ 4 < n) :
    Calls Try.prog 13 #[.int .i64 a, .int .i64 n] w fun e w' => e = .returned (.tuple #[.int .i64 0, .int .i64 1]) ∧ Drawn0 w w' := by
  rcases (show a < 0 ∨ 0 ≤ a by omega) with h1 | h1
  · clear h
    go_enter Try.func13, Try.ntmps13
    go_wp2
    go_ret2
    exact ⟨rfl, by repeat (first | exact Drawn0.refl _ | apply Drawn0.step)⟩
  · rcases (show 8 ≤ a ∨ a < 8 by omega) with h2 | h2
    · clear h
      go_enter Try.func13, Try.ntmps13
      go_wp2
      go_ret2
      exact ⟨rfl, by repeat (first | exact Drawn0.refl _ | apply Drawn0.step)⟩
    · rcases (show n < 1 ∨ 1 ≤ n by omega) with h3 | h3
      · clear h
        go_enter Try.func13, Try.ntmps13
        go_wp2
        go_ret2
        exact ⟨rfl, by repeat (first | exact Drawn0.refl _ | apply Drawn0.step)⟩
      · have h4 : 4 < n := by omega
        clear h
        go_enter Try.func13, Try.ntmps13
        go_wp2
        go_ret2
        exact ⟨rfl, by repeat (first | exact Drawn0.refl _ | apply Drawn0.step)⟩
end Go.Proofs.Ytbodaohbmekekaa

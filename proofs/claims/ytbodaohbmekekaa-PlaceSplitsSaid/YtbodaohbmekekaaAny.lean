/- The walk of a key and a key's shard, of texts of any size; and what the print of PlaceSplits is to take of place.Shard. No condition. -/
import Derived.Test.YtbodaohbmekekaaShard
set_option linter.unusedVariables false
set_option linter.unusedSimpArgs false
namespace Go.Proofs.Ytbodaohbmekekaa
open Go.RowKit Go.Proofs.YtbodaohbmekekaaW.PrintWords

set_option maxHeartbeats 1000000 in
theorem shardNoAny (s : ByteArray) (n : Int) (w : World) (h : okShard s n = false) :
    Calls Try.prog 11 #[.string s, .int .i64 n] w fun e w' => e = .returned (.tuple #[.int .i64 0, .int .i64 1]) ∧ Drawn0 w w' := by
  have h1 := of_decide_eq_false h
  clear h
  rcases (show s.size = 0 ∨ 1 ≤ s.size by omega) with h2 | h2
  · have h0 : (s.toList == []) = true := by
      have : s.toList.length = s.size := by rw [ByteArray.toList_eq, data_length]
      rw [List.eq_nil_of_length_eq_zero (this.trans h2)]; rfl
    clear h1 h2
    go_enter Try.func11, Try.ntmps11
    go_wp2
    go_ret2
    exact ⟨rfl, by repeat (first | exact Drawn0.refl _ | apply Drawn0.step)⟩
  · have h0 := string_not_empty h2
    rcases (show 32 < s.size ∨ s.size ≤ 32 by omega) with h3 | h3
    · clear h1
      go_enter Try.func11, Try.ntmps11
      go_wp2
      go_ret2
      exact ⟨rfl, by repeat (first | exact Drawn0.refl _ | apply Drawn0.step)⟩
    · rcases (show n < 1 ∨ 1 ≤ n by omega) with h4 | h4
      · clear h1
        go_enter Try.func11, Try.ntmps11
        go_wp2
        go_ret2
        exact ⟨rfl, by repeat (first | exact Drawn0.refl _ | apply Drawn0.step)⟩
      · have h5 : 8 < n := by omega
        clear h1
        go_enter Try.func11, Try.ntmps11
        go_wp2
        go_ret2
        exact ⟨rfl, by repeat (first | exact Drawn0.refl _ | apply Drawn0.step)⟩


theorem shardAny (s : ByteArray) (n : Int) (w : World) :
    Calls Try.prog 11 #[.string s, .int .i64 n] w fun e w' => e = .returned (.tuple #[.int .i64 (sv s n), .int .i64 (se s n)]) ∧ Drawn0 w w' := by
  unfold sv se
  cases h : okShard s n with
  | true => exact shard_yes s n w h
  | false => exact shardNoAny s n w h
end Go.Proofs.Ytbodaohbmekekaa

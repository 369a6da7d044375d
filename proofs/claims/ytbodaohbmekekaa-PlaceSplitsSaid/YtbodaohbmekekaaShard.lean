/- A key's shard and a shard's node (place.Shard, place.Node): the plain answers. Condition: none beside the string's own size. -/
import Derived.Test.YtbodaohbmekekaaWalk
import Derived.Lib.Hide
set_option linter.unusedVariables false
set_option linter.unusedSimpArgs false
namespace Go.Proofs.Ytbodaohbmekekaa
open Go.RowKit Go.Proofs.YtbodaohbmekekaaW.PrintWords

/-- What the walk of a whole key (up to 32 bytes) is. -/
def wX (s : ByteArray) : Int := (wk s (min s.size 32)).1
def wY (s : ByteArray) : Int := (wk s (min s.size 32)).2
theorem wX_bound (s : ByteArray) : -8192 ≤ wX s ∧ wX s ≤ 8192 := by have := wk_bound s (min s.size 32); unfold wX; omega
theorem wY_bound (s : ByteArray) : -8192 ≤ wY s ∧ wY s ≤ 8192 := by have := wk_bound s (min s.size 32); unfold wY; omega
/-- A key's shard. -/
def shardOf (s : ByteArray) (n : Int) : Int := (3 * wX s + 5 * wY s).emod n
def okShard (s : ByteArray) (n : Int) : Bool := decide (1 ≤ s.size ∧ s.size ≤ 32 ∧ 1 ≤ n ∧ n ≤ 8)

theorem tmod_twice (v n : Int) (hn : 0 < n) : (v.tmod n + n) % n = v.emod n := by
  have h1 := Int.tmod_lt_of_pos v hn
  have h2 : -n < v.tmod n := Int.lt_tmod_of_pos v hn
  simp only [Int.emod_emod_of_dvd, Int.add_emod_right]
  show (v.tmod n) % n = v % n
  have := Int.tmod_def v n
  rw [this, Int.sub_emod, Int.mul_emod_right]; simp

theorem ret2 {a b : Int} (h : a = b) : Ending.returned (.tuple #[.int .i64 a, .int .i64 0]) = .returned (.tuple #[.int .i64 b, .int .i64 0]) := by rw [h]

theorem string_not_empty {s : ByteArray} (h : 1 ≤ s.size) : (s.toList == []) = false := by
  have : s.toList.length = s.size := by rw [ByteArray.toList_eq, data_length]
  cases h' : s.toList with
  | nil => rw [h'] at this; simp at this; omega
  | cons a l => rfl

set_option maxHeartbeats 1000000 in
theorem shard_yes (s : ByteArray) (n : Int) (w : World) (h : okShard s n = true) :
    Calls Try.prog 11 #[.string s, .int .i64 n] w fun e w' => e = .returned (.tuple #[.int .i64 (shardOf s n), .int .i64 0]) ∧ Drawn0 w w' := by
  obtain ⟨h1, h2, h3, h4⟩ := of_decide_eq_true h
  have hw := Lib.hid (fun w => walk_calls s w (by unfold maxLen; omega))
  have hx := wX_bound s
  have hy := wY_bound s
  have hv := Lib.hid (tmod_twice (3 * wX s + 5 * wY s) n (by omega))
  have h0 := string_not_empty h1
  have t1 := Int.tmod_lt_of_pos (3 * wX s + 5 * wY s) (show 0 < n by omega)
  have t2 := Int.lt_tmod_of_pos (3 * wX s + 5 * wY s) (show 0 < n by omega)
  have hsh : shardOf s n = (3 * wX s + 5 * wY s).emod n := rfl
  have hS := Lib.hid hsh
  clear h hsh
  go_enter Try.func11, Try.ntmps11
  go_wp2_with (go_at_call 9; refine (hw.out _).mono ?_; rintro e w' ⟨⟨re, im, rfl, hr, hi⟩, ⟨m, rfl⟩⟩; have c1 := fun W => run_convert_float_int (P := Try.prog) W 27 3 .f64 .i64 re (wX s) rfl rfl (Fl.rep_toInt hr (by omega) (by omega)); have c2 := fun W => run_convert_float_int (P := Try.prog) W 27 3 .f64 .i64 im (wY s) rfl rfl (Fl.rep_toInt hi (by omega) (by omega)); clear hr hi)
  go_ret2
  exact ⟨ret2 (by rw [hS.out, hv.out]), by repeat (first | exact Drawn0.refl _ | apply Drawn0.step)⟩

set_option maxHeartbeats 1000000 in
theorem shard_no (s : ByteArray) (n : Int) (w : World) (hs : s.size ≤ maxLen) (h : okShard s n = false) :
    Calls Try.prog 11 #[.string s, .int .i64 n] w fun e w' => e = .returned (.tuple #[.int .i64 0, .int .i64 1]) ∧ Drawn0 w w' := by
  unfold maxLen at hs
  have h1 := of_decide_eq_false h
  clear h
  rcases (show s.size = 0 ∨ 1 ≤ s.size by omega) with h2 | h2
  · have h0 : (s.toList == []) = true := by
      have : s.toList.length = s.size := by rw [ByteArray.toList_eq, data_length]
      rw [List.eq_nil_of_length_eq_zero (this.trans h2)]; rfl
    clear h1 h2
    go_enter Try.func11, Try.ntmps11
    go_wp2
    go_ret2
    exact ⟨rfl, by repeat (first | exact Drawn0.refl _ | apply Drawn0.step)⟩
  · have h0 := string_not_empty h2
    rcases (show 32 < s.size ∨ s.size ≤ 32 by omega) with h3 | h3
    · clear h1
      go_enter Try.func11, Try.ntmps11
      go_wp2
      go_ret2
      exact ⟨rfl, by repeat (first | exact Drawn0.refl _ | apply Drawn0.step)⟩
    · rcases (show n < 1 ∨ 1 ≤ n by omega) with h4 | h4
      · clear h1
        go_enter Try.func11, Try.ntmps11
        go_wp2
        go_ret2
        exact ⟨rfl, by repeat (first | exact Drawn0.refl _ | apply Drawn0.step)⟩
      · have h5 : 8 < n := by omega
        clear h1
        go_enter Try.func11, Try.ntmps11
        go_wp2
        go_ret2
        exact ⟨rfl, by repeat (first | exact Drawn0.refl _ | apply Drawn0.step)⟩

/-- What Shard answers. -/
def sv (s : ByteArray) (n : Int) : Int := if okShard s n then shardOf s n else 0
def se (s : ByteArray) (n : Int) : Int := if okShard s n then 0 else 1
theorem shard_calls (s : ByteArray) (n : Int) (w : World) (hs : s.size ≤ maxLen) :
    Calls Try.prog 11 #[.string s, .int .i64 n] w fun e w' => e = .returned (.tuple #[.int .i64 (sv s n), .int .i64 (se s n)]) ∧ Drawn0 w w' := by
  unfold sv se
  cases h : okShard s n with
  | true => exact shard_yes s n w h
  | false => exact shard_no s n w hs h
end Go.Proofs.Ytbodaohbmekekaa

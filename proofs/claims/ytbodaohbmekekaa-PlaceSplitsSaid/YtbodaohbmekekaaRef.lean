/- The document's answers for place (dovecoteref13: Walk, Shard, Node; dovecoteref09.Key): the same plain answers. Condition: none beside the strings' own size. -/
import Derived.Test.YtbodaohbmekekaaNode
set_option linter.unusedVariables false
set_option linter.unusedSimpArgs false
namespace Go.Proofs.Ytbodaohbmekekaa
open Go.RowKit Go.Proofs.YtbodaohbmekekaaW.PrintWords

theorem rnode_yes (a n : Int) (w : World) (h : 0 ≤ a ∧ a < 8 ∧ 1 ≤ n ∧ n ≤ 4) :
    Calls Try.prog 14 #[.int .i64 a, .int .i64 n] w fun e w' => e = .returned (.tuple #[.int .i64 (a % n), .int .i64 0]) ∧ Drawn0 w w' := by
  obtain ⟨h1, h2, h3, h4⟩ := h
  go_enter Try.func14, Try.ntmps14
  go_wp2
  go_ret2
  exact ⟨rfl, by repeat (first | exact Drawn0.refl _ | apply Drawn0.step)⟩
theorem rnode_no (a n : Int) (w : World) (h : a < 0 ∨ 8 ≤ a ∨ n < 1 ∨ 4 < n) :
    Calls Try.prog 14 #[.int .i64 a, .int .i64 n] w fun e w' => e = .returned (.tuple #[.int .i64 0, .int .i64 1]) ∧ Drawn0 w w' := by
  rcases (show a < 0 ∨ 0 ≤ a by omega) with h1 | h1
  · clear h
    go_enter Try.func14, Try.ntmps14
    go_wp2
    go_ret2
    exact ⟨rfl, by repeat (first | exact Drawn0.refl _ | apply Drawn0.step)⟩
  · rcases (show 8 ≤ a ∨ a < 8 by omega) with h2 | h2
    · clear h
      go_enter Try.func14, Try.ntmps14
      go_wp2
      go_ret2
      exact ⟨rfl, by repeat (first | exact Drawn0.refl _ | apply Drawn0.step)⟩
    · rcases (show n < 1 ∨ 1 ≤ n by omega) with h3 | h3
      · clear h
        go_enter Try.func14, Try.ntmps14
        go_wp2
        go_ret2
        exact ⟨rfl, by repeat (first | exact Drawn0.refl _ | apply Drawn0.step)⟩
      · have h4 : 4 < n := by omega
        clear h
        go_enter Try.func14, Try.ntmps14
        go_wp2
        go_ret2
        exact ⟨rfl, by repeat (first | exact Drawn0.refl _ | apply Drawn0.step)⟩

def keyB (s : ByteArray) : Bool := decide (1 ≤ s.size ∧ s.size ≤ 32)
theorem rkey_calls (s : ByteArray) (w : World) (hs : s.size ≤ maxLen) :
    Calls Try.prog 18 #[.string s] w fun e w' => e = .returned (.bool (keyB s)) ∧ Drawn0 w w' := by
  unfold maxLen at hs
  rcases (show s.size < 1 ∨ 1 ≤ s.size by omega) with h | h
  · have hk : keyB s = false := decide_eq_false (by omega)
    rw [hk]
    clear hk
    go_enter Try.func18, Try.ntmps18
    go_wp2
    go_ret
    exact ⟨rfl, by repeat (first | exact Drawn0.refl _ | apply Drawn0.step)⟩
  · rcases (show 32 < s.size ∨ s.size ≤ 32 by omega) with h2 | h2
    · have hk : keyB s = false := decide_eq_false (by omega)
      rw [hk]
      clear hk
      have d : decide ((s.size : Int) ≤ 32) = false := decide_eq_false (by omega)
      go_enter Try.func18, Try.ntmps18
      go_wp2
      go_ret
      exact ⟨rfl, by repeat (first | exact Drawn0.refl _ | apply Drawn0.step)⟩
    · have hk : keyB s = true := decide_eq_true (by omega)
      rw [hk]
      clear hk
      have d : decide ((s.size : Int) ≤ 32) = true := decide_eq_true (by omega)
      go_enter Try.func18, Try.ntmps18
      go_wp2
      go_ret
      exact ⟨rfl, by repeat (first | exact Drawn0.refl _ | apply Drawn0.step)⟩

set_option maxHeartbeats 1000000 in
theorem rwalk_calls (s : ByteArray) (w : World) (hs : s.size ≤ maxLen) :
    Calls Try.prog 10 #[.string s] w fun e w' => e = .returned (.tuple #[.int .i64 (wX s), .int .i64 (wY s)]) ∧ Drawn0 w w' := by
  unfold maxLen at hs
  obtain ⟨m, hm⟩ : ∃ m, m = min s.size 32 := ⟨_, rfl⟩
  have E : Hid (wX s = (wk s m).1 ∧ wY s = (wk s m).2) := by unfold wX wY; rw [hm]; exact ⟨rfl, rfl⟩
  have hm1 : m ≤ s.size := by omega
  have hm2 : m ≤ 32 := by omega
  have hm3 : m = s.size ∨ m = 32 := by omega
  clear hm
  go_enter Try.func10, Try.ntmps10
  go_wp2
  go_loopg [4, 5, 6] (m + 1) (fun gk v4 v5 v6 w' => ∃ (k : Nat), k ≤ m ∧ v4 = .int .i64 (wk s k).1 ∧ v5 = .int .i64 (wk s k).2 ∧ v6 = .int .i64 k ∧ Aside0 (k + gk = m + 1) ∧ Drawn0 w w')
  case atStart => exact ⟨0, by omega, rfl, rfl, rfl, ⟨by omega⟩, Drawn0.refl _⟩
  case round =>
    obtain ⟨k, hk, rfl, rfl, rfl, ⟨hg⟩, ⟨m1, rfl⟩⟩ := hrel
    have hG : Aside0 (k + gk = m + 1) := ⟨hg⟩
    clear hg
    by_cases hlt : k < m
    · have hb := wk_bound s k
      have ha := bt_range s k
      have hx5 : ∀ h : k < s.size, ((s[k]'h).toNat : Int) = bt s k := bt_at s k
      have hw : Hid (wk s (k + 1) = (-(wk s k).2 + bt s k + 1, (wk s k).1)) := rfl
      have h1 : k < s.size := by omega
      have h2 : k < 32 := by omega
      obtain ⟨⟨b1, b2⟩, b3, b4⟩ := hb
      obtain ⟨a1, a2⟩ := ha
      go_wp2
      go_roundg (gk - 1)
      case measure => have := hG.out; omega
      case rel => exact ⟨k + 1, by omega, by rw [hw.out], by rw [hw.out], by go_num, ⟨by have := hG.out; omega⟩, by repeat (first | exact Drawn0.refl _ | apply Drawn0.step)⟩
    · obtain rfl : k = m := by omega
      rcases hm3 with h | h
      · have h1 : ¬ k < s.size := by omega
        clear hm1 hlt hk
        have H := Lib.hid h
        clear h
        go_wp2
        go_ret2
        exact ⟨by rw [E.out.1, E.out.2]; rfl, by repeat (first | exact Drawn0.refl _ | apply Drawn0.step)⟩
      · rcases (show s.size = 32 ∨ 32 < s.size by omega) with h2 | h2
        · have h1 : ¬ k < s.size := by omega
          clear hm1 hlt hk
          have H := Lib.hid h
          have H2 := Lib.hid h2
          clear h h2
          go_wp2
          go_ret2
          exact ⟨by rw [E.out.1, E.out.2]; rfl, by repeat (first | exact Drawn0.refl _ | apply Drawn0.step)⟩
        · have h1 : k < s.size := by omega
          have h3 : ¬ k < 32 := by omega
          clear hm1 hlt hk
          have H := Lib.hid h
          clear h
          go_wp2
          go_ret2
          exact ⟨by rw [E.out.1, E.out.2]; rfl, by repeat (first | exact Drawn0.refl _ | apply Drawn0.step)⟩

theorem emod_of_tmod (v n : Int) (hn : 0 < n) : v.emod n = if v.tmod n < 0 then v.tmod n + n else v.tmod n := by
  have h := tmod_twice v n hn
  have h1 := Int.tmod_lt_of_pos v hn
  have h2 : -n < v.tmod n := Int.lt_tmod_of_pos v hn
  rw [← h]
  split
  · exact Int.emod_eq_of_lt (by omega) (by omega)
  · rw [Int.add_emod_right]; exact Int.emod_eq_of_lt (by omega) (by omega)

set_option maxHeartbeats 1000000 in
theorem rshard_yes (s : ByteArray) (n : Int) (w : World) (h : okShard s n = true) :
    Calls Try.prog 12 #[.string s, .int .i64 n] w fun e w' => e = .returned (.tuple #[.int .i64 (shardOf s n), .int .i64 0]) ∧ Drawn0 w w' := by
  obtain ⟨h1, h2, h3, h4⟩ := of_decide_eq_true h
  have hw := Lib.hid (fun w => rwalk_calls s w (by unfold maxLen; omega))
  have hK := Lib.hid (fun w => rkey_calls s w (by unfold maxLen; omega))
  have hkt : Hid (keyB s = true) := decide_eq_true ⟨h1, h2⟩
  have hx := wX_bound s
  have hy := wY_bound s
  have t1 := Int.tmod_lt_of_pos (3 * wX s + 5 * wY s) (show 0 < n by omega)
  have t2 := Int.lt_tmod_of_pos (3 * wX s + 5 * wY s) (show 0 < n by omega)
  have hS := Lib.hid (show shardOf s n = _ from emod_of_tmod (3 * wX s + 5 * wY s) n (by omega))
  clear h h1 h2
  by_cases hneg : (3 * wX s + 5 * wY s).tmod n < 0
  · have hS2 : Hid (shardOf s n = (3 * wX s + 5 * wY s).tmod n + n) := by
      have := hS.out
      rw [if_pos hneg] at this
      exact this
    clear hS
    go_enter Try.func12, Try.ntmps12
    go_wp2_with (first | (go_at_call 18; refine (hK.out _).mono ?_; rw [hkt.out]; rintro e w' ⟨rfl, ⟨m, rfl⟩⟩) | (go_at_call 10; refine (hw.out _).mono ?_; rintro e w' ⟨rfl, ⟨m, rfl⟩⟩))
    go_ret2
    exact ⟨ret2 (by rw [hS2.out]), by repeat (first | exact Drawn0.refl _ | apply Drawn0.step)⟩
  · have hS2 : Hid (shardOf s n = (3 * wX s + 5 * wY s).tmod n) := by
      have := hS.out
      rw [if_neg hneg] at this
      exact this
    clear hS
    have hnn : 0 ≤ (3 * wX s + 5 * wY s).tmod n := by omega
    go_enter Try.func12, Try.ntmps12
    go_wp2_with (first | (go_at_call 18; refine (hK.out _).mono ?_; rw [hkt.out]; rintro e w' ⟨rfl, ⟨m, rfl⟩⟩) | (go_at_call 10; refine (hw.out _).mono ?_; rintro e w' ⟨rfl, ⟨m, rfl⟩⟩))
    go_ret2
    exact ⟨ret2 (by rw [hS2.out]), by repeat (first | exact Drawn0.refl _ | apply Drawn0.step)⟩

set_option maxHeartbeats 1000000 in
theorem rshard_no (s : ByteArray) (n : Int) (w : World) (hs : s.size ≤ maxLen) (h : okShard s n = false) :
    Calls Try.prog 12 #[.string s, .int .i64 n] w fun e w' => e = .returned (.tuple #[.int .i64 0, .int .i64 1]) ∧ Drawn0 w w' := by
  have hK := Lib.hid (fun w => rkey_calls s w hs)
  have h1 := of_decide_eq_false h
  clear h
  rcases (show (s.size < 1 ∨ 32 < s.size) ∨ (1 ≤ s.size ∧ s.size ≤ 32) by omega) with h2 | h2
  · have hkt : Hid (keyB s = false) := decide_eq_false (by omega)
    clear h1 h2
    go_enter Try.func12, Try.ntmps12
    go_wp2_with (go_at_call 18; refine (hK.out _).mono ?_; rw [hkt.out]; rintro e w' ⟨rfl, ⟨m, rfl⟩⟩)
    go_ret2
    exact ⟨rfl, by repeat (first | exact Drawn0.refl _ | apply Drawn0.step)⟩
  · have hkt : Hid (keyB s = true) := decide_eq_true h2
    rcases (show n < 1 ∨ 1 ≤ n by omega) with h3 | h3
    · clear h1 h2
      go_enter Try.func12, Try.ntmps12
      go_wp2_with (go_at_call 18; refine (hK.out _).mono ?_; rw [hkt.out]; rintro e w' ⟨rfl, ⟨m, rfl⟩⟩)
      go_ret2
      exact ⟨rfl, by repeat (first | exact Drawn0.refl _ | apply Drawn0.step)⟩
    · have h4 : 8 < n := by omega
      clear h1 h2
      go_enter Try.func12, Try.ntmps12
      go_wp2_with (go_at_call 18; refine (hK.out _).mono ?_; rw [hkt.out]; rintro e w' ⟨rfl, ⟨m, rfl⟩⟩)
      go_ret2
      exact ⟨rfl, by repeat (first | exact Drawn0.refl _ | apply Drawn0.step)⟩
theorem rshard_calls (s : ByteArray) (n : Int) (w : World) (hs : s.size ≤ maxLen) :
    Calls Try.prog 12 #[.string s, .int .i64 n] w fun e w' => e = .returned (.tuple #[.int .i64 (sv s n), .int .i64 (se s n)]) ∧ Drawn0 w w' := by
  unfold sv se
  cases h : okShard s n with
  | true => exact rshard_yes s n w h
  | false => exact rshard_no s n w hs h
end Go.Proofs.Ytbodaohbmekekaa

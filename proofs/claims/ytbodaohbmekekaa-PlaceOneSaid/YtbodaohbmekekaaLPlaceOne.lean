/- PlaceOne: with one shard all keys live there; a shard's node is one of the nodes. Condition: the text takes at most 2^47 - 4096 bytes (the row's own reach). -/
import Derived.Test.YtbodaohbmekekaaNode
set_option linter.unusedVariables false
set_option linter.unusedSimpArgs false
namespace Go.Proofs.Ytbodaohbmekekaa
open Go.RowKit Go.Proofs.YtbodaohbmekekaaW.PrintWords

set_option maxHeartbeats 2000000 in
theorem walk_PlaceOne0 (a0 : ByteArray) (a n : Int) (w0 : a0.size ≤ maxLen) (w : World) :
    Calls Try.prog 6 #[.string a0, .int .i64 a, .int .i64 n] w fun e w' => e = .returned (.bool true) ∧ Drawn0 w w' := by
  have ka := Lib.hid awake_calls
  have ks := Lib.hid (fun w => shard_calls a0 1 w w0)
  have e1 : sv a0 1 = 0 := by
    unfold sv shardOf
    split
    · exact Int.emod_one _
    · rfl
  have kn := Lib.hid (fun w h => node_no a n w h)
  have ky := Lib.hid (fun w h => node_yes a n w h)
  have E1 := Lib.hid e1
  clear e1
  unfold maxLen at w0
  rcases (show (1 ≤ a0.size ∧ a0.size ≤ 32) ∨ (a0.size = 0 ∨ 32 < a0.size) by omega) with hc | hc
  · have E2 : Hid (se a0 1 = 0) := by
      have : okShard a0 1 = true := decide_eq_true ⟨hc.1, hc.2, by omega, by omega⟩
      unfold se
      rw [this]; rfl
    obtain ⟨hc1, hc2⟩ := hc
    have d1 : decide ((a0.size : Int) ≤ 32) = true := decide_eq_true (by omega)
    rcases (show (0 ≤ a ∧ a < 8 ∧ 1 ≤ n ∧ n ≤ 4) ∨ (a < 0 ∨ 8 ≤ a ∨ n < 1 ∨ 4 < n) by omega) with hn | hn
    · have HN := Lib.hid hn
      have m1 : 0 ≤ a % n := Int.emod_nonneg _ (by omega)
      have m2 : a % n < n := Int.emod_lt_of_pos _ (by omega)
      have m3 : (a - a % n) % n = 0 := by
        have h := Int.emod_add_mul_ediv a n
        rw [show a - a % n = n * (a / n) by omega]
        exact Int.mul_emod_right _ _
      have m4 : 0 ≤ a - a % n := by
        have := Int.emod_add_mul_ediv a n
        have h2 : 0 ≤ n * (a / n) := Int.mul_nonneg (by omega) (Int.ediv_nonneg (by omega) (by omega))
        omega
      obtain ⟨n1, n2, n3, n4⟩ := hn
      generalize a % n = r at *
      go_enter Try.func6, Try.ntmps6
      go_wp2_with (first | (go_at_call 8; refine (ka.out _).mono ?_; rintro e w' ⟨rfl, ⟨m, rfl⟩⟩) | (go_at_call 11; refine (ks.out _).mono ?_; rw [E1.out, E2.out]; rintro e w' ⟨rfl, ⟨m2, rfl⟩⟩) | (go_at_call 13; refine (ky.out _ HN.out).mono ?_; rintro e w' ⟨rfl, ⟨m3, rfl⟩⟩))
      go_ret
      exact ⟨rfl, by repeat (first | exact Drawn0.refl _ | apply Drawn0.step)⟩
    · have HN := Lib.hid hn
      clear hn
      go_enter Try.func6, Try.ntmps6
      go_wp2_with (first | (go_at_call 8; refine (ka.out _).mono ?_; rintro e w' ⟨rfl, ⟨m, rfl⟩⟩) | (go_at_call 11; refine (ks.out _).mono ?_; rw [E1.out, E2.out]; rintro e w' ⟨rfl, ⟨m2, rfl⟩⟩) | (go_at_call 13; refine (kn.out _ HN.out).mono ?_; rintro e w' ⟨rfl, ⟨m3, rfl⟩⟩))
      go_ret
      exact ⟨rfl, by repeat (first | exact Drawn0.refl _ | apply Drawn0.step)⟩
  · have E2 : Hid (se a0 1 = 1) := by
      have : okShard a0 1 = false := decide_eq_false (by omega)
      unfold se
      rw [this]; rfl
    rcases hc with hc1 | hc1
    all_goals rcases (show (0 ≤ a ∧ a < 8 ∧ 1 ≤ n ∧ n ≤ 4) ∨ (a < 0 ∨ 8 ≤ a ∨ n < 1 ∨ 4 < n) by omega) with hn | hn
    · have hz : ((a0.size : Int)) = 0 := by omega
      have d1 : decide (1 ≤ (a0.size : Int)) = false := decide_eq_false (by omega)
      clear hc1
      have HN := Lib.hid hn
      have m1 : 0 ≤ a % n := Int.emod_nonneg _ (by omega)
      have m2 : a % n < n := Int.emod_lt_of_pos _ (by omega)
      have m3 : (a - a % n) % n = 0 := by
        have h := Int.emod_add_mul_ediv a n
        rw [show a - a % n = n * (a / n) by omega]
        exact Int.mul_emod_right _ _
      have m4 : 0 ≤ a - a % n := by
        have := Int.emod_add_mul_ediv a n
        have h2 : 0 ≤ n * (a / n) := Int.mul_nonneg (by omega) (Int.ediv_nonneg (by omega) (by omega))
        omega
      obtain ⟨n1, n2, n3, n4⟩ := hn
      generalize a % n = r at *
      go_enter Try.func6, Try.ntmps6
      go_wp2_with (first | (go_at_call 8; refine (ka.out _).mono ?_; rintro e w' ⟨rfl, ⟨m, rfl⟩⟩) | (go_at_call 11; refine (ks.out _).mono ?_; rw [E1.out, E2.out]; rintro e w' ⟨rfl, ⟨m2, rfl⟩⟩) | (go_at_call 13; refine (ky.out _ HN.out).mono ?_; rintro e w' ⟨rfl, ⟨m3, rfl⟩⟩))
      go_ret
      exact ⟨rfl, by repeat (first | exact Drawn0.refl _ | apply Drawn0.step)⟩
    · have hz : ((a0.size : Int)) = 0 := by omega
      have d1 : decide (1 ≤ (a0.size : Int)) = false := decide_eq_false (by omega)
      clear hc1
      have HN := Lib.hid hn
      clear hn
      go_enter Try.func6, Try.ntmps6
      go_wp2_with (first | (go_at_call 8; refine (ka.out _).mono ?_; rintro e w' ⟨rfl, ⟨m, rfl⟩⟩) | (go_at_call 11; refine (ks.out _).mono ?_; rw [E1.out, E2.out]; rintro e w' ⟨rfl, ⟨m2, rfl⟩⟩) | (go_at_call 13; refine (kn.out _ HN.out).mono ?_; rintro e w' ⟨rfl, ⟨m3, rfl⟩⟩))
      go_ret
      exact ⟨rfl, by repeat (first | exact Drawn0.refl _ | apply Drawn0.step)⟩
    · have d1 : decide ((a0.size : Int) ≤ 32) = false := decide_eq_false (by omega)
      have d2 : decide (1 ≤ (a0.size : Int)) = true := decide_eq_true (by omega)
      have HN := Lib.hid hn
      have m1 : 0 ≤ a % n := Int.emod_nonneg _ (by omega)
      have m2 : a % n < n := Int.emod_lt_of_pos _ (by omega)
      have m3 : (a - a % n) % n = 0 := by
        have h := Int.emod_add_mul_ediv a n
        rw [show a - a % n = n * (a / n) by omega]
        exact Int.mul_emod_right _ _
      have m4 : 0 ≤ a - a % n := by
        have := Int.emod_add_mul_ediv a n
        have h2 : 0 ≤ n * (a / n) := Int.mul_nonneg (by omega) (Int.ediv_nonneg (by omega) (by omega))
        omega
      obtain ⟨n1, n2, n3, n4⟩ := hn
      generalize a % n = r at *
      go_enter Try.func6, Try.ntmps6
      go_wp2_with (first | (go_at_call 8; refine (ka.out _).mono ?_; rintro e w' ⟨rfl, ⟨m, rfl⟩⟩) | (go_at_call 11; refine (ks.out _).mono ?_; rw [E1.out, E2.out]; rintro e w' ⟨rfl, ⟨m2, rfl⟩⟩) | (go_at_call 13; refine (ky.out _ HN.out).mono ?_; rintro e w' ⟨rfl, ⟨m3, rfl⟩⟩))
      go_ret
      exact ⟨rfl, by repeat (first | exact Drawn0.refl _ | apply Drawn0.step)⟩
    · have d1 : decide ((a0.size : Int) ≤ 32) = false := decide_eq_false (by omega)
      have d2 : decide (1 ≤ (a0.size : Int)) = true := decide_eq_true (by omega)
      have HN := Lib.hid hn
      clear hn
      go_enter Try.func6, Try.ntmps6
      go_wp2_with (first | (go_at_call 8; refine (ka.out _).mono ?_; rintro e w' ⟨rfl, ⟨m, rfl⟩⟩) | (go_at_call 11; refine (ks.out _).mono ?_; rw [E1.out, E2.out]; rintro e w' ⟨rfl, ⟨m2, rfl⟩⟩) | (go_at_call 13; refine (kn.out _ HN.out).mono ?_; rintro e w' ⟨rfl, ⟨m3, rfl⟩⟩))
      go_ret
      exact ⟨rfl, by repeat (first | exact Drawn0.refl _ | apply Drawn0.step)⟩
theorem walk_PlaceOne (a0 : ByteArray) (a n : Int) (w0 : a0.size ≤ 140737488351232) (w1 : (Lit.int .i64 a).wf = true) (w2 : (Lit.int .i64 n).wf = true) (w : World) :
    Calls Try.prog 6 #[.string a0, .int .i64 a, .int .i64 n] w fun e w' => e = .returned (.bool true) ∧ Below w.heap.size w w' :=
  (walk_PlaceOne0 a0 a n (by unfold maxLen; omega) w).mono fun _ _ ⟨h, k⟩ => ⟨h, k.below⟩
end Go.Proofs.Ytbodaohbmekekaa

/- The walk of a key (place.Walk): two floats that stand for the two whole numbers of the plain walk. Condition: none beside the string's own size. -/
import Derived.Test.YtbodaohbmekekaaProg
import Derived.Test.YtbodaohbmekekaaFl
import Derived.Test.YtbodaohbmekekaaWWords
import Derived.WalkKit
import Derived.WalkLawsBesides
import Derived.Deep.LoopGhost
import Derived.Laws.ComplexArith
set_option linter.unusedVariables false
set_option linter.unusedSimpArgs false
namespace Go.Proofs.Ytbodaohbmekekaa
open Go.RowKit Go.Proofs.YtbodaohbmekekaaW.PrintWords

/-- The plain walk of the first n bytes. -/
def wk (s : ByteArray) : Nat → Int × Int
  | 0 => (0, 0)
  | n + 1 => (-(wk s n).2 + bt s n + 1, (wk s n).1)
theorem wk_bound (s : ByteArray) (n : Nat) : (-(256 * n : Int) ≤ (wk s n).1 ∧ (wk s n).1 ≤ 256 * n) ∧ -(256 * n : Int) ≤ (wk s n).2 ∧ (wk s n).2 ≤ 256 * n := by
  induction n with
  | zero => simp [wk]
  | succ n ih => have := bt_range s n; simp only [wk]; omega

/-- One round's floats. -/
theorem round_bits {re im : Nat} {x y b : Int} (hr : Fl.Rep re x) (hi : Fl.Rep im y) (hx : -8192 ≤ x ∧ x ≤ 8192) (hy : -8192 ≤ y ∧ y ≤ 8192) (hb : 0 ≤ b ∧ b ≤ 255) :
    ∃ re1 im1 b1 re2 im2, cMulBits re im 0 4607182418800017408 = some (re1, im1) ∧ floatBits .add .f64 (floatOfInt .f64 b) 4607182418800017408 = some b1 ∧ cSumBits .add .f64 re1 im1 b1 0 = some (re2, im2) ∧ Fl.Rep re2 (-y + b + 1) ∧ Fl.Rep im2 x := by
  obtain ⟨p1, e1, h1⟩ := Fl.rep_mul hr Fl.rep_zero (by omega)
  obtain ⟨p2, e2, h2⟩ := Fl.rep_mul hi Fl.rep_one (by omega)
  obtain ⟨p3, e3, h3⟩ := Fl.rep_sub h1 h2 (by omega)
  obtain ⟨p4, e4, h4⟩ := Fl.rep_mul hr Fl.rep_one (by omega)
  obtain ⟨p5, e5, h5⟩ := Fl.rep_mul hi Fl.rep_zero (by omega)
  obtain ⟨p6, e6, h6⟩ := Fl.rep_add h4 h5 (by omega)
  obtain ⟨b1, e7, h7⟩ := Fl.rep_add (Fl.rep_nearest b (by omega)) Fl.rep_one (by omega)
  obtain ⟨p8, e8, h8⟩ := Fl.rep_add h3 h7 (by omega)
  obtain ⟨p9, e9, h9⟩ := Fl.rep_add h6 Fl.rep_zero (by omega)
  refine ⟨p3, p6, b1, p8, p9, ?_, e7, ?_, ?_, ?_⟩
  · simp [cMulBits, e1, e2, e3, e4, e5, e6]
  · simp [cSumBits, e8, e9]
  · have e : x * 0 - y * 1 + (b + 1) = -y + b + 1 := by omega
    rwa [e] at h8
  · have e : x * 1 + y * 0 + 0 = x := by omega
    rwa [e] at h9

/-- What a walk's result stands for. -/
def IsWalk (x y : Int) (e : Ending) : Prop := ∃ re im, e = .returned (.complex .f64 re im) ∧ Fl.Rep re x ∧ Fl.Rep im y

set_option maxHeartbeats 1000000 in
theorem walk_calls (s : ByteArray) (w : World) (hs : s.size ≤ maxLen) :
    Calls Try.prog 9 #[.string s] w fun e w' => IsWalk (wk s (min s.size 32)).1 (wk s (min s.size 32)).2 e ∧ Drawn0 w w' := by
  unfold maxLen at hs
  obtain ⟨m, hm⟩ : ∃ m, m = min s.size 32 := ⟨_, rfl⟩
  rw [← hm]
  have hm1 : m ≤ s.size := by omega
  have hm2 : m ≤ 32 := by omega
  rcases (show s.size ≤ 32 ∨ 32 < s.size by omega) with hc | hc
  · obtain rfl : s.size = m := by omega
    clear hm
    go_enter Try.func9, Try.ntmps9
    go_wp2
    go_loopg [3, 8] (s.size + 1) (fun gk v3 v8 w' => ∃ (k : Nat) (re im : Nat), k ≤ s.size ∧ v3 = .complex .f64 re im ∧ v8 = .int .i64 k ∧ Aside0 (Fl.Rep re (wk s k).1 ∧ Fl.Rep im (wk s k).2) ∧ Aside0 (k + gk = s.size + 1) ∧ Drawn0 w w')
    case atStart => exact ⟨0, 0, 0, by omega, rfl, rfl, ⟨Fl.rep_zero, Fl.rep_zero⟩, ⟨by omega⟩, Drawn0.refl _⟩
    case round =>
      obtain ⟨k, re, im, hk, rfl, rfl, ⟨hr, hi⟩, ⟨hg⟩, ⟨m1, rfl⟩⟩ := hrel
      by_cases hlt : k < s.size
      · have hw := wk_bound s k
        obtain ⟨re1, im1, b1, re2, im2, e1, e2, e3, h1, h2⟩ := round_bits hr hi (by omega) (by omega) (bt_range s k)
        have hz : Aside0 (Fl.Rep re2 (wk s (k + 1)).1 ∧ Fl.Rep im2 (wk s (k + 1)).2) := ⟨h1, h2⟩
        have hmul := fun w => run_complex_mul (P := Try.prog) w 23 _ _ _ _ _ _ e1
        have hadd := fun w => run_float_arith (P := Try.prog) w .add 27 _ _ _ _ e2
        have hsum := fun w => run_complex_sum (P := Try.prog) w .add (Or.inl rfl) 23 _ _ _ _ _ _ _ e3
        have hx5 : ∀ h : k < s.size, ((s[k]'h).toNat : Int) = bt s k := bt_at s k
        have hG : Aside0 (k + gk = s.size + 1) := ⟨hg⟩
        clear hr hi hg hw e1 e2 e3 h1 h2
        go_wp2
        go_roundg (gk - 1)
        case measure => have := hG.out; omega
        case rel => exact ⟨k + 1, re2, im2, by omega, rfl, by go_num, hz, ⟨by have := hG.out; omega⟩, by repeat (first | exact Drawn0.refl _ | apply Drawn0.step)⟩
      · obtain rfl : k = s.size := by omega
        have hG : Aside0 (Fl.Rep re (wk s s.size).1 ∧ Fl.Rep im (wk s s.size).2) := ⟨hr, hi⟩
        clear hr hi hg
        go_wp2
        go_ret
        exact ⟨⟨re, im, rfl, hG.out.1, hG.out.2⟩, by repeat (first | exact Drawn0.refl _ | apply Drawn0.step)⟩
  · obtain rfl : m = 32 := by omega
    clear hm hm1 hm2
    go_enter Try.func9, Try.ntmps9
    go_wp2
    go_loopg [3, 8] 33 (fun gk v3 v8 w' => ∃ (k : Nat) (re im : Nat), k ≤ 32 ∧ v3 = .complex .f64 re im ∧ v8 = .int .i64 k ∧ Aside0 (Fl.Rep re (wk s k).1 ∧ Fl.Rep im (wk s k).2) ∧ Aside0 (k + gk = 33) ∧ Drawn0 w w')
    case atStart => exact ⟨0, 0, 0, by omega, rfl, rfl, ⟨Fl.rep_zero, Fl.rep_zero⟩, ⟨by omega⟩, Drawn0.refl _⟩
    case round =>
      obtain ⟨k, re, im, hk, rfl, rfl, ⟨hr, hi⟩, ⟨hg⟩, ⟨m1, rfl⟩⟩ := hrel
      by_cases hlt : k < 32
      · have hw := wk_bound s k
        obtain ⟨re1, im1, b1, re2, im2, e1, e2, e3, h1, h2⟩ := round_bits hr hi (by omega) (by omega) (bt_range s k)
        have hz : Aside0 (Fl.Rep re2 (wk s (k + 1)).1 ∧ Fl.Rep im2 (wk s (k + 1)).2) := ⟨h1, h2⟩
        have hmul := fun w => run_complex_mul (P := Try.prog) w 23 _ _ _ _ _ _ e1
        have hadd := fun w => run_float_arith (P := Try.prog) w .add 27 _ _ _ _ e2
        have hsum := fun w => run_complex_sum (P := Try.prog) w .add (Or.inl rfl) 23 _ _ _ _ _ _ _ e3
        have hx5 : ∀ h : k < s.size, ((s[k]'h).toNat : Int) = bt s k := bt_at s k
        have hks : k < s.size := by omega
        have hG : Aside0 (k + gk = 33) := ⟨hg⟩
        clear hr hi hg hw e1 e2 e3 h1 h2
        go_wp2
        go_roundg (gk - 1)
        case measure => have := hG.out; omega
        case rel => exact ⟨k + 1, re2, im2, by omega, rfl, by go_num, hz, ⟨by have := hG.out; omega⟩, by repeat (first | exact Drawn0.refl _ | apply Drawn0.step)⟩
      · obtain rfl : k = 32 := by omega
        have hG : Aside0 (Fl.Rep re (wk s 32).1 ∧ Fl.Rep im (wk s 32).2) := ⟨hr, hi⟩
        clear hr hi hg
        go_wp2
        go_ret
        exact ⟨⟨re, im, rfl, hG.out.1, hG.out.2⟩, by repeat (first | exact Drawn0.refl _ | apply Drawn0.step)⟩
end Go.Proofs.Ytbodaohbmekekaa

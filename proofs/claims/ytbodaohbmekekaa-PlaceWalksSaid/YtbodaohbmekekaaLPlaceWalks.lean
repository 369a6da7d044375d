/- PlaceWalks: the walk of two texts is the first one's, turned, and the second one's: the walk of the law. Condition: each text takes at most 2^47 - 4096 bytes (the row's own reach). -/
import Derived.Test.YtbodaohbmekekaaPl
set_option linter.unusedVariables false
set_option linter.unusedSimpArgs false
namespace Go.Proofs.Ytbodaohbmekekaa
open Go.RowKit Go.Proofs.YtbodaohbmekekaaW.PrintWords
theorem turn_bits {re im : Nat} {x y : Int} (hr : Fl.Rep re x) (hi : Fl.Rep im y) (hx : -8192 ≤ x ∧ x ≤ 8192) (hy : -8192 ≤ y ∧ y ≤ 8192) :
    ∃ re1 im1, cMulBits re im 0 4607182418800017408 = some (re1, im1) ∧ Fl.Rep re1 (-y) ∧ Fl.Rep im1 x := by
  obtain ⟨p1, e1, h1⟩ := Fl.rep_mul hr Fl.rep_zero (by omega)
  obtain ⟨p2, e2, h2⟩ := Fl.rep_mul hi Fl.rep_one (by omega)
  obtain ⟨p3, e3, h3⟩ := Fl.rep_sub h1 h2 (by omega)
  obtain ⟨p4, e4, h4⟩ := Fl.rep_mul hr Fl.rep_one (by omega)
  obtain ⟨p5, e5, h5⟩ := Fl.rep_mul hi Fl.rep_zero (by omega)
  obtain ⟨p6, e6, h6⟩ := Fl.rep_add h4 h5 (by omega)
  refine ⟨p3, p6, ?_, ?_, ?_⟩
  · simp [cMulBits, e1, e2, e3, e4, e5, e6]
  · have e : x * 0 - y * 1 = -y := by omega
    rwa [e] at h3
  · have e : x * 1 + y * 0 = x := by omega
    rwa [e] at h6
theorem rotN_bound (s : ByteArray) (h : s.size ≤ 32) (k : Nat) : (-8192 ≤ (rotN k (wk s s.size)).1 ∧ (rotN k (wk s s.size)).1 ≤ 8192) ∧ -8192 ≤ (rotN k (wk s s.size)).2 ∧ (rotN k (wk s s.size)).2 ≤ 8192 := by
  induction k with
  | zero => have := wk_bound s s.size; simp only [rotN]; omega
  | succ k ih => simp only [rotN, rot]; omega
theorem join_bits {a0 a1 : ByteArray} {re im re1 im1 re2 im2 : Nat} (hc : a0.size + a1.size ≤ 32)
    (hA : Fl.Rep re (rotN a1.size (wk a0 a0.size)).1 ∧ Fl.Rep im (rotN a1.size (wk a0 a0.size)).2)
    (hB : Fl.Rep re1 (wk (a0 ++ a1) (min (a0 ++ a1).size 32)).1 ∧ Fl.Rep im1 (wk (a0 ++ a1) (min (a0 ++ a1).size 32)).2)
    (hC : Fl.Rep re2 (wk a1 (min a1.size 32)).1 ∧ Fl.Rep im2 (wk a1 (min a1.size 32)).2) :
    ∃ q1 q2, cSumBits .add .f64 re im re2 im2 = some (q1, q2) ∧ (FloatKind.f64.format.order re1 q1 == some .eq) = true ∧ (FloatKind.f64.format.order im1 q2 == some .eq) = true := by
  rw [size_append, show min (a0.size + a1.size) 32 = a0.size + a1.size by omega, wk_append] at hB
  rw [show min a1.size 32 = a1.size by omega] at hC
  have b1 := rotN_bound a0 (by omega) a1.size
  have b2 := wk_bound a1 a1.size
  obtain ⟨q1, e1, h1⟩ := Fl.rep_add hA.1 hC.1 (by omega)
  obtain ⟨q2, e2, h2⟩ := Fl.rep_add hA.2 hC.2 (by omega)
  refine ⟨q1, q2, by simp [cSumBits, e1, e2], ?_, ?_⟩
  · rw [Fl.rep_eq hB.1 h1]; simp
  · rw [Fl.rep_eq hB.2 h2]; simp
set_option maxHeartbeats 2000000 in
theorem walk_PlaceWalks0 (a0 a1 : ByteArray) (w0' : a0.size ≤ 140737488351232) (w1' : a1.size ≤ 140737488351232) (w : World) :
    Calls Try.prog 3 #[.string a0, .string a1] w fun e w' => e = .returned (.bool true) ∧ Drawn0 w w' := by
  have ka := Lib.hid awake_calls
  have w0 : a0.size ≤ maxLen := by unfold maxLen; omega
  have w1 : a1.size ≤ maxLen := by unfold maxLen; omega
  rcases (show 32 < a0.size + a1.size ∨ a0.size + a1.size ≤ 32 by omega) with hc | hc
  · go_enter Try.func3, Try.ntmps3
    go_wp2_with (go_at_call 8; refine (ka.out _).mono ?_; rintro e w' ⟨rfl, ⟨m, rfl⟩⟩)
    go_ret
    exact ⟨rfl, by repeat (first | exact Drawn0.refl _ | apply Drawn0.step)⟩
  · have kw := Lib.hid (fun s h w => walk_calls s w h)
    go_enter Try.func3, Try.ntmps3
    go_wp2_with (first | (go_at_call 8; refine (ka.out _).mono ?_; rintro e w' ⟨rfl, ⟨m, rfl⟩⟩) | (go_at_call 9; refine (kw.out _ (by assumption) _).mono ?_; rintro e w' ⟨⟨re, im, rfl, hr, hi⟩, ⟨m2, rfl⟩⟩))
    have hA : Aside0 (Fl.Rep re (wk a0 a0.size).1 ∧ Fl.Rep im (wk a0 a0.size).2) := by rw [show min a0.size 32 = a0.size by omega] at hr hi; exact ⟨hr, hi⟩
    clear hr hi
    go_loopg [5, 19] 5 (fun gk v5 v19 w' => ∃ (k : Nat) (re im : Nat), k ≤ a1.size % 4 ∧ v5 = .complex .f64 re im ∧ v19 = .int .i64 k ∧ Aside0 (Fl.Rep re (rotN k (wk a0 a0.size)).1 ∧ Fl.Rep im (rotN k (wk a0 a0.size)).2) ∧ Aside0 (k + gk = 5) ∧ Drawn0 w w')
    case atStart => exact ⟨0, re, im, by omega, rfl, rfl, hA, ⟨by omega⟩, by repeat (first | exact Drawn0.refl _ | apply Drawn0.step)⟩
    case round =>
      clear hA
      obtain ⟨k, re, im, hk, rfl, rfl, ⟨hr, hi⟩, ⟨hg⟩, ⟨m1, rfl⟩⟩ := hrel
      by_cases hlt : k < a1.size % 4
      · have hw := rotN_bound a0 (by omega) k
        obtain ⟨re1, im1, e1, h1, h2⟩ := turn_bits hr hi (by omega) (by omega)
        have hz : Aside0 (Fl.Rep re1 (rotN (k + 1) (wk a0 a0.size)).1 ∧ Fl.Rep im1 (rotN (k + 1) (wk a0 a0.size)).2) := ⟨h1, h2⟩
        have hmul := fun w => run_complex_mul (P := Try.prog) w 23 _ _ _ _ _ _ e1
        have hG : Aside0 (k + gk = 5) := ⟨hg⟩
        clear hr hi hg hw e1 h1 h2
        go_wp2
        go_roundg (gk - 1)
        case measure => have := hG.out; omega
        case rel => exact ⟨k + 1, re1, im1, by omega, rfl, by go_num, hz, ⟨by have := hG.out; omega⟩, by repeat (first | exact Drawn0.refl _ | apply Drawn0.step)⟩
      · obtain rfl : k = a1.size % 4 := by omega
        have hA : Aside0 (Fl.Rep re (rotN a1.size (wk a0 a0.size)).1 ∧ Fl.Rep im (rotN a1.size (wk a0 a0.size)).2) := by rw [rotN_mod a1.size]; exact ⟨hr, hi⟩
        clear hr hi hg
        have hsz := Lib.hid (size_append a0 a1)
        go_wp2_with fail
        refine (kw.out _ (by rw [hsz.out]; unfold maxLen; omega) _).mono ?_
        rintro e w' ⟨⟨re1, im1, rfl, hr1, hi1⟩, ⟨m2, rfl⟩⟩
        have hB : Aside0 (Fl.Rep re1 _ ∧ Fl.Rep im1 _) := ⟨hr1, hi1⟩
        clear hr1 hi1
        go_wp2_with fail
        refine (kw.out _ (by assumption) _).mono ?_
        rintro e w' ⟨⟨re2, im2, rfl, hr2, hi2⟩, ⟨m3, rfl⟩⟩
        obtain ⟨q1, q2, f1, f2, f3⟩ := join_bits hc hA.out hB.out ⟨hr2, hi2⟩
        have hsum := fun w => run_complex_sum (P := Try.prog) w .add (Or.inl rfl) 23 _ _ _ _ _ _ _ f1
        clear hr2 hi2 hA hB f1
        go_wp2
        go_ret
        exact ⟨rfl, by repeat (first | exact Drawn0.refl _ | apply Drawn0.step)⟩

theorem walk_PlaceWalks (a0 a1 : ByteArray) (w0 : a0.size ≤ 140737488351232) (w1 : a1.size ≤ 140737488351232) (w : World) :
    Calls Try.prog 3 #[.string a0, .string a1] w fun e w' => e = .returned (.bool true) ∧ Below w.heap.size w w' :=
  (walk_PlaceWalks0 a0 a1 w0 w1 w).mono fun _ _ ⟨h, k⟩ => ⟨h, k.below⟩
end Go.Proofs.Ytbodaohbmekekaa

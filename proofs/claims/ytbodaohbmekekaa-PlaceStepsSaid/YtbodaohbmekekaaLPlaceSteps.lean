/- PlaceSteps: a walk goes, byte by byte, a quarter turn and a step further; four bytes more turn it once around. Condition: the text takes at most 2^47 - 4096 bytes (the row's own reach). -/
import Derived.Test.YtbodaohbmekekaaPl
import Derived.Laws.BytesArg
import Derived.OpenShut
set_option linter.unusedVariables false
set_option linter.unusedSimpArgs false
namespace Go.Proofs.Ytbodaohbmekekaa
open Go.RowKit Go.Proofs.YtbodaohbmekekaaW.PrintWords

theorem rep_neg {x : Nat} {n : Int} (h : Fl.Rep x n) : Fl.Rep (Op.negFloat .f64 x) (-n) := by
  obtain ⟨s, a, k, e, rfl⟩ := h
  refine ⟨!s, a, k, ?_, by cases s <;> simp⟩
  have e1 : Op.negFloat .f64 x % 2 ^ 63 = x % 2 ^ 63 := by
    show (x ^^^ 2 ^ 63) % 2 ^ 63 = _
    rw [Nat.xor_mod_two_pow]
    simp
  have e2 : (Op.negFloat .f64 x / 2 ^ 63 % 2 == 1) = !(x / 2 ^ 63 % 2 == 1) := by
    show ((x ^^^ 2 ^ 63) / 2 ^ 63 % 2 == 1) = _
    have h := Nat.testBit_xor x (2 ^ 63) 63
    rw [Nat.testBit_two_pow_self] at h
    have t : ∀ y : Nat, (y / 2 ^ 63 % 2 == 1) = y.testBit 63 := by
      intro y
      rw [Nat.testBit_eq_decide_div_mod_eq]
      by_cases c : y / 2 ^ 63 % 2 = 1
      · simp [c]
      · simp [c]
    rw [t, t, h, Bool.xor_true]
  unfold Ieee.Format.read at e ⊢
  simp only [Fl.sw] at e ⊢
  rw [e1, e2]
  generalize (x / 2 ^ 63 % 2 == 1) = q at *
  generalize x % 2 ^ 63 = r at *
  generalize Ieee.double.binade = bb at *
  generalize Ieee.double.infRung = ii at *
  generalize Ieee.double.leastPlace = pp at *
  by_cases c1 : r < bb
  · simp only [c1, if_true, Ieee.Datum.number.injEq] at e ⊢
    obtain ⟨rfl, h⟩ := e
    exact ⟨rfl, h⟩
  · by_cases c2 : r < ii
    · simp only [c1, c2, if_true, if_false, Ieee.Datum.number.injEq] at e ⊢
      obtain ⟨rfl, h⟩ := e
      exact ⟨rfl, h⟩
    · simp only [c1, c2, if_false] at e
      split at e <;> cases e

theorem bt_nums (xs : List Int) (i : Nat) (h : i < xs.length) (hx : ∀ x ∈ xs, 0 ≤ x ∧ x ≤ 255) : bt (strOfNums xs) i = xs[i] := by
  have hs : i < (strOfNums xs).size := by rw [strOfNums_size]; exact h
  unfold bt
  rw [dif_pos (by simpa using hs)]
  have hb := hx _ (List.getElem_mem h)
  show (((strOfNums xs).data[i]'hs).toNat : Int) = _
  have : (strOfNums xs).data[i]'hs = UInt8.ofNat (xs[i]).toNat := by simp [strOfNums]
  rw [this]
  simp
  omega

/-- One byte more: the turned walk and a step. -/
theorem step_one (a0 : ByteArray) (b : Int) (hb : 0 ≤ b ∧ b ≤ 255) : wk (a0 ++ strOfNums [b]) (a0.size + 1) = (-(wk a0 a0.size).2 + b + 1, (wk a0 a0.size).1) := by
  rw [wk_append]
  have h : bt (strOfNums [b]) ((0 : Nat) : Int) = b := bt_nums [b] 0 (by simp) (by simpa using hb)
  simp only [rotN, rot, wk]
  rw [h]
  refine Prod.ext ?_ ?_
  · dsimp only; omega
  · dsimp only; omega
theorem step_four (a0 : ByteArray) (s : ByteArray) : wk (a0 ++ s) (a0.size + 4) = ((wk a0 a0.size).1 + (wk s 4).1, (wk a0 a0.size).2 + (wk s 4).2) := by
  rw [wk_append]
  rw [show rotN 4 (wk a0 a0.size) = wk a0 a0.size from rotN_four 0 _]

/-- What the law's two comparisons see. -/
theorem steps_bits {a0 one : ByteArray} {b : Int} {re im re1 im1 : Nat} (hc : a0.size ≤ 28) (hb : 0 ≤ b ∧ b ≤ 255) (hA : Fl.Rep re (wk a0 (min a0.size 32)).1 ∧ Fl.Rep im (wk a0 (min a0.size 32)).2)
    (ho : strOfNums [b] = one) (hB : Fl.Rep re1 (wk (a0 ++ one) (min (a0 ++ one).size 32)).1 ∧ Fl.Rep im1 (wk (a0 ++ one) (min (a0 ++ one).size 32)).2) :
    ∃ p q, floatBits .add .f64 (Op.negFloat .f64 im) (floatOfInt .f64 b) = some p ∧ floatBits .add .f64 p 4607182418800017408 = some q ∧ (FloatKind.f64.format.order re1 q == some .eq) = true ∧ (FloatKind.f64.format.order im1 re == some .eq) = true := by
  subst ho
  rw [size_append, strOfNums_size, show min (a0.size + [b].length) 32 = a0.size + 1 by simp; omega, step_one a0 b hb] at hB
  rw [show min a0.size 32 = a0.size by omega] at hA
  have b1 := wk_bound a0 a0.size
  obtain ⟨p, e1, h1⟩ := Fl.rep_add (rep_neg hA.2) (Fl.rep_nearest b (by omega)) (by omega)
  obtain ⟨q, e2, h2⟩ := Fl.rep_add h1 Fl.rep_one (by omega)
  refine ⟨p, q, e1, e2, ?_, ?_⟩
  · rw [Fl.rep_eq hB.1 h2]; simp
  · rw [Fl.rep_eq hB.2 hA.1]; simp
theorem four_bits {a0 s : ByteArray} {re im re1 im1 re2 im2 : Nat} (hc : a0.size ≤ 28) (hs : s.size = 4) (hA : Fl.Rep re (wk a0 (min a0.size 32)).1 ∧ Fl.Rep im (wk a0 (min a0.size 32)).2)
    (hB : Fl.Rep re1 (wk (a0 ++ s) (min (a0 ++ s).size 32)).1 ∧ Fl.Rep im1 (wk (a0 ++ s) (min (a0 ++ s).size 32)).2)
    (hC : Fl.Rep re2 (wk s (min s.size 32)).1 ∧ Fl.Rep im2 (wk s (min s.size 32)).2) :
    ∃ q1 q2, cSumBits .add .f64 re im re2 im2 = some (q1, q2) ∧ (FloatKind.f64.format.order re1 q1 == some .eq) = true ∧ (FloatKind.f64.format.order im1 q2 == some .eq) = true := by
  rw [size_append, hs, show min (a0.size + 4) 32 = a0.size + 4 by omega, step_four] at hB
  rw [hs, show min 4 32 = 4 by omega] at hC
  rw [show min a0.size 32 = a0.size by omega] at hA
  have b1 := wk_bound a0 a0.size
  have b2 := wk_bound s 4
  obtain ⟨q1, e1, h1⟩ := Fl.rep_add hA.1 hC.1 (by omega)
  obtain ⟨q2, e2, h2⟩ := Fl.rep_add hA.2 hC.2 (by omega)
  refine ⟨q1, q2, by simp [cSumBits, e1, e2], ?_, ?_⟩
  · rw [Fl.rep_eq hB.1 h1]; simp
  · rw [Fl.rep_eq hB.2 h2]; simp

theorem below_end (w : World) (n m k : Nat) (o o' : Obj) : Below w.heap.size w ((((w.drewN n).alloc o).drewN m).alloc o' |>.drewN k) :=
  pw_below_drewN ((pw_below_drewN ((pw_below_drewN (Below.refl _ w) n).alloc (Nat.le_refl _) o) m).alloc (by show w.heap.size ≤ (w.heap.push o).size; rw [Array.size_push]; omega) o') k
set_option maxHeartbeats 2000000 in
theorem walk_PlaceSteps (a0 : ByteArray) (b : Int) (w0' : a0.size ≤ 140737488351232) (hb : (Lit.int .u8 b).wf = true) (w : World) :
    Calls Try.prog 4 #[.string a0, .int .u8 b] w fun e w' => e = .returned (.bool true) ∧ Below w.heap.size w w' := by
  have ka := Lib.hid awake_calls
  have kw := Lib.hid (fun s h w => walk_calls s w h)
  have w0 : a0.size ≤ maxLen := by unfold maxLen; omega
  have hbb : 0 ≤ b ∧ b ≤ 255 := Go.bounds_u8 hb
  have HB := Lib.hid hbb
  clear hb
  rcases (show 28 < a0.size ∨ a0.size ≤ 28 by omega) with hc | hc
  · go_enter Try.func4, Try.ntmps4
    go_wp2_with (go_at_call 8; refine (ka.out _).mono ?_; rintro e w' ⟨rfl, ⟨m, rfl⟩⟩)
    go_ret
    exact ⟨rfl, Drawn0.below (by repeat (first | exact Drawn0.refl _ | apply Drawn0.step))⟩
  · have kb : ∀ n, (convert 26 9 (.slice (some ⟨w.heap.size, 0, none⟩) 1 1)).run Try.prog ((w.drewN n).alloc (.cells #[.int .u8 b] 5)) = .ok (.string (strOfNums [b])) ((w.drewN n).alloc (.cells #[.int .u8 b] 5)) := by
      intro n
      refine run_convert_bytes_arg _ 26 5 Try.underlying26 Try.underlying5 w.heap.size 0 1 1 [b] rfl (fun i hi => ?_) 9 Try.underlying9
      obtain rfl : i = 0 := by omega
      exact World.cell?_alloc_new (w.drewN n) _ _ 0
    have k4 : ∀ (w1 : World) n, (convert 26 9 (.slice (some ⟨w1.heap.size, 0, none⟩) 4 4)).run Try.prog ((w1.drewN n).alloc (.cells #[.int .u8 b, .int .u8 b, .int .u8 b, .int .u8 b] 5)) = .ok (.string (strOfNums [b, b, b, b])) ((w1.drewN n).alloc (.cells #[.int .u8 b, .int .u8 b, .int .u8 b, .int .u8 b] 5)) := by
      intro w1 n
      refine run_convert_bytes_arg _ 26 5 Try.underlying26 Try.underlying5 w1.heap.size 0 4 4 [b, b, b, b] rfl (fun i hi => ?_) 9 Try.underlying9
      rw [Nat.zero_add]
      refine (World.cell?_alloc_new (w1.drewN n) _ _ i).trans ?_
      match i, hi with
      | 0, _ => rfl
      | 1, _ => rfl
      | 2, _ => rfl
      | 3, _ => rfl
    have k44 : ∀ n m, (convert 26 9 (.slice (some ⟨w.heap.size + 1, 0, none⟩) 4 4)).run Try.prog ((((w.drewN n).alloc (.cells #[.int .u8 b] 5)).drewN m).alloc (.cells #[.int .u8 b, .int .u8 b, .int .u8 b, .int .u8 b] 5)) = .ok (.string (strOfNums [b, b, b, b])) ((((w.drewN n).alloc (.cells #[.int .u8 b] 5)).drewN m).alloc (.cells #[.int .u8 b, .int .u8 b, .int .u8 b, .int .u8 b] 5)) := by
      intro n m
      have := k4 ((w.drewN n).alloc (.cells #[.int .u8 b] 5)) m
      rwa [show ((w.drewN n).alloc (.cells #[.int .u8 b] 5)).heap.size = w.heap.size + 1 from Array.size_push _] at this
    clear k4
    have hneg : ∀ x, Op.unary .neg (.float .f64 x) = pure (.float .f64 (Op.negFloat .f64 x)) := fun _ => rfl
    have hs1 : (a0 ++ strOfNums [b]).size ≤ maxLen := by rw [size_append, strOfNums_size]; unfold maxLen; simp; omega
    have hs4 : (strOfNums [b, b, b, b]).size = 4 := by rw [strOfNums_size]; rfl
    have hs2 : (strOfNums [b, b, b, b]).size ≤ maxLen := by rw [hs4]; unfold maxLen; omega
    have hs3 : (a0 ++ strOfNums [b, b, b, b]).size ≤ maxLen := by rw [size_append, hs4]; unfold maxLen; omega
    have HS4 := Lib.hid hs4
    have hz4 : ((strOfNums [b, b, b, b]).size : Int) = 4 := by rw [hs4]; rfl
    have hz1 : ((strOfNums [b]).size : Int) = 1 := by rw [strOfNums_size]; rfl
    clear hs4
    generalize hf : strOfNums [b, b, b, b] = four at *
    generalize hg : strOfNums [b] = one at *
    have HF := Lib.hid hf
    have HG := Lib.hid hg
    clear hf hg
    go_enter Try.func4, Try.ntmps4
    go_wp2_with (go_at_call 8; refine (ka.out _).mono ?_; rintro e w' ⟨rfl, ⟨m, rfl⟩⟩)
    refine (kw.out _ w0 _).mono ?_
    rintro e w' ⟨⟨re, im, rfl, hr, hi⟩, ⟨m2, rfl⟩⟩
    have hA : Aside0 (Fl.Rep re _ ∧ Fl.Rep im _) := ⟨hr, hi⟩
    clear hr hi
    go_wp2_with fail
    refine (kw.out _ hs1 _).mono ?_
    rintro e w' ⟨⟨re1, im1, rfl, hr1, hi1⟩, ⟨m3, rfl⟩⟩
    obtain ⟨p, q, f1, f2, f3, f4⟩ := steps_bits hc HB.out hA.out HG.out ⟨hr1, hi1⟩
    have hadd := fun w => run_float_arith (P := Try.prog) w .add 27 _ _ _ _ f1
    have hadd2 := fun w => run_float_arith (P := Try.prog) w .add 27 _ _ _ _ f2
    have F3 := Lib.hid f3
    have F4 := Lib.hid f4
    clear f3 f4 hr1 hi1 f1 f2
    have f3 := F3.out
    have f4 := F4.out
    go_wp2_with fail
    refine (kw.out _ hs3 _).mono ?_
    rintro e w' ⟨⟨re2, im2, rfl, hr2, hi2⟩, ⟨m4, rfl⟩⟩
    have hB : Aside0 (Fl.Rep re2 _ ∧ Fl.Rep im2 _) := ⟨hr2, hi2⟩
    clear hr2 hi2
    go_wp2_with fail
    refine (kw.out _ hs2 _).mono ?_
    rintro e w' ⟨⟨re3, im3, rfl, hr3, hi3⟩, ⟨m5, rfl⟩⟩
    obtain ⟨q1, q2, g1, g2, g3⟩ := four_bits hc HS4.out hA.out hB.out ⟨hr3, hi3⟩
    have hsum := fun w => run_complex_sum (P := Try.prog) w .add (Or.inl rfl) 23 _ _ _ _ _ _ _ g1
    have G2 := Lib.hid g2
    have G3 := Lib.hid g3
    clear g2 g3 hr3 hi3 g1 hA hB
    have g2 := G2.out
    have g3 := G3.out
    go_wp2
    go_ret
    exact ⟨rfl, below_end _ _ _ _ _ _⟩
end Go.Proofs.Ytbodaohbmekekaa

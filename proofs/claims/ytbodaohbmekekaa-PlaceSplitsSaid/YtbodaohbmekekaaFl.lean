/- Whole numbers below 2^53 as float64 words: what sums, products, comparisons and conversions of them give. Conditions: the results lie below 2^53. -/
import Derived.Laws.ComplexArith
namespace Go.Proofs.Ytbodaohbmekekaa.Fl
open Ieee
set_option linter.unusedVariables false

theorem sw : double.signWeight = 2 ^ 63 := by decide
theorem bd : double.binade = 2 ^ 52 := by decide
theorem ir : double.infRung = 2047 * 2 ^ 52 := by decide
theorem lp : double.leastPlace = -1074 := by decide

/-- The word w stands for the whole number n (a zero of either sign for 0). -/
def Rep (w : Nat) (n : Int) : Prop := ∃ (s : Bool) (a k : Nat), double.read w = .number s (a * 2 ^ k) (-(k : Int)) ∧ n = (if s then -(a : Int) else a)

theorem read_word (neg : Bool) (r : Nat) (h : r < 2 ^ 63) : double.read (double.word neg r) =
    (if r < 2 ^ 52 then .number neg r (-1074) else if r < 2047 * 2 ^ 52 then .number neg (2 ^ 52 + r % 2 ^ 52) (-1074 + (r / 2 ^ 52 - 1 : Nat)) else if r = 2047 * 2 ^ 52 then .infinity neg else .nan neg (r - 2047 * 2 ^ 52)) := by
  have e1 : double.word neg r / 2 ^ 63 % 2 = if neg then 1 else 0 := by
    unfold Format.word; rw [sw]; cases neg
    · simp; omega
    · simp; omega
  have e2 : double.word neg r % 2 ^ 63 = r := by
    unfold Format.word; rw [sw]; cases neg
    · simp; omega
    · simp; omega
  unfold Format.read
  simp only [sw, bd, ir, lp, e1, e2]
  cases neg <;> simp

theorem log2_mul_pow (a k : Nat) (h : a ≠ 0) : (a * 2 ^ k).log2 = a.log2 + k := by
  induction k with
  | zero => simp
  | succ k ih =>
    rw [Nat.pow_succ, ← Nat.mul_assoc, Nat.mul_comm _ 2, Nat.log2_two_mul (by have := Nat.two_pow_pos k; exact Nat.mul_ne_zero h (by omega)), ih]; omega

theorem cut_exact (way : Toward) (neg : Bool) (a k : Nat) : way.cut neg (a * 2 ^ k) k = a := by
  unfold Toward.cut
  by_cases ha : a = 0
  · subst ha
    have e : (1 <<< min k ((0 * 2 ^ k).log2 + 2)) ≠ 0 := by rw [Nat.one_shiftLeft]; have := Nat.two_pow_pos (min k ((0 * 2 ^ k).log2 + 2)); omega
    simp only [Nat.zero_mul] at e ⊢
    cases way <;> simp
    all_goals (rw [Nat.one_shiftLeft]; have := Nat.two_pow_pos (min k (Nat.log2 0 + 2)); omega)
  · rw [log2_mul_pow a k ha, Nat.min_eq_left (by omega), Nat.one_shiftLeft]
    have h2 := Nat.two_pow_pos k
    have e1 : a * 2 ^ k / 2 ^ k = a := Nat.mul_div_cancel _ h2
    have e2 : a * 2 ^ k % 2 ^ k = 0 := Nat.mul_mod_left _ _
    simp only [e1, e2]
    cases way <;> simp

theorem nearest_exact (neg : Bool) (a j : Nat) (h0 : a ≠ 0) (h : a < 2 ^ 53) :
    double.nearest neg (a * 2 ^ j) (-(j : Int)) = double.word neg ((1074 - (52 - a.log2)) * 2 ^ 52 + a * 2 ^ (52 - a.log2)) ∧ 2 ^ 52 ≤ a * 2 ^ (52 - a.log2) ∧ a * 2 ^ (52 - a.log2) < 2 ^ 53 := by
  have hl : a.log2 ≤ 52 := by
    have := (Nat.log2_lt h0).2 h; omega
  have hlo := Nat.log2_self_le h0
  have hhi : a < 2 ^ (a.log2 + 1) := (Nat.log2_lt h0).1 (by omega)
  have hb : 2 ^ 52 ≤ a * 2 ^ (52 - a.log2) := by
    calc 2 ^ 52 = 2 ^ a.log2 * 2 ^ (52 - a.log2) := by rw [← Nat.pow_add]; congr 1; omega
      _ ≤ _ := Nat.mul_le_mul_right _ hlo
  have hc : a * 2 ^ (52 - a.log2) < 2 ^ 53 := by
    calc a * 2 ^ (52 - a.log2) < 2 ^ (a.log2 + 1) * 2 ^ (52 - a.log2) := Nat.mul_lt_mul_of_pos_right hhi (Nat.two_pow_pos _)
      _ = 2 ^ 53 := by rw [← Nat.pow_add]; congr 1; omega
  refine ⟨?_, hb, hc⟩
  generalize hk : 52 - a.log2 = k at *
  have hne : a * 2 ^ j ≠ 0 := Nat.mul_ne_zero h0 (by have := Nat.two_pow_pos j; omega)
  unfold Format.nearest
  rw [if_neg hne]
  have hlast : max (-(j : Int) + ((a * 2 ^ j).log2 : Nat) - (double.fractionBits : Nat)) double.leastPlace = -(k : Int) := by
    rw [log2_mul_pow a j h0, lp]
    show max (-(j : Int) + ((a.log2 + j : Nat) : Int) - ((52 : Nat) : Int)) (-1074) = _
    omega
  have hcut : Toward.even.cut neg ((a * 2 ^ j) <<< (-(j : Int) - (-(k : Int))).toNat) (-(k : Int) - (-(j : Int))).toNat = a * 2 ^ k := by
    by_cases hjk : k ≤ j
    · rw [show (-(j : Int) - (-(k : Int))).toNat = 0 by omega, show (-(k : Int) - (-(j : Int))).toNat = j - k by omega, Nat.shiftLeft_zero,
        show a * 2 ^ j = (a * 2 ^ k) * 2 ^ (j - k) by rw [Nat.mul_assoc, ← Nat.pow_add]; congr 2; omega]
      exact cut_exact _ _ _ _
    · rw [show (-(j : Int) - (-(k : Int))).toNat = k - j by omega, show (-(k : Int) - (-(j : Int))).toNat = 0 by omega, Nat.shiftLeft_eq,
        show a * 2 ^ j * 2 ^ (k - j) = (a * 2 ^ k) * 2 ^ 0 by rw [Nat.mul_assoc, ← Nat.pow_add, Nat.pow_zero, Nat.mul_one]; congr 2; omega]
      exact cut_exact _ _ _ 0
  dsimp only
  rw [hlast, hcut, lp, bd, ir]
  congr 1
  rw [Nat.min_eq_left]
  · congr 2
    omega
  · omega

theorem rep_write (neg : Bool) (a j : Nat) (h : a < 2 ^ 53) : Rep (double.write (.number neg (a * 2 ^ j) (-(j : Int)))) (if neg then -(a : Int) else a) := by
  show Rep (double.nearest neg (a * 2 ^ j) (-(j : Int))) _
  by_cases h0 : a = 0
  · subst h0
    have key : ∀ k : Nat, k = 1074 → double.read (double.nearest neg (0 * 2 ^ j) (-(j : Int))) = .number neg (0 * 2 ^ k) (-(k : Int)) := by
      intro k hk
      unfold Format.nearest
      rw [if_pos (by rw [Nat.zero_mul]), read_word _ _ (by omega), Nat.zero_mul, if_pos (by omega), hk]
      rfl
    exact ⟨neg, 0, 1074, key 1074 rfl, rfl⟩
  · obtain ⟨e, h1, h2⟩ := nearest_exact neg a j h0 h
    have hl : a.log2 ≤ 52 := by
      have := (Nat.log2_lt h0).2 h; omega
    generalize hk : 52 - a.log2 = k at *
    refine ⟨neg, a, k, ?_, rfl⟩
    rw [e, read_word _ _ (by omega), if_neg (by omega), if_pos (by omega)]
    congr 1
    · omega
    · omega

theorem rep_nearest (n : Int) (h : n.natAbs < 2 ^ 53) : Rep (FloatKind.f64.nearest n) n := by
  have := rep_write (decide (n < 0)) n.natAbs 0 h
  have e : (if decide (n < 0) = true then -((n.natAbs : Nat) : Int) else ((n.natAbs : Nat) : Int)) = n := by
    by_cases h : n < 0
    · simp [h]; omega
    · simp [h]; omega
  rw [e] at this
  simpa [FloatKind.nearest, FloatKind.encode, FloatKind.format] using this

theorem signed_mul (s : Bool) (a u : Nat) : signed s a u = (if s then -(a : Int) else a) * 2 ^ u := by
  unfold signed
  rw [Nat.shiftLeft_eq]
  cases s <;> simp [Int.neg_mul]

theorem rep_mul {x y : Nat} {m n : Int} (hx : Rep x m) (hy : Rep y n) (h : (m * n).natAbs < 2 ^ 53) : ∃ w, floatBits .mul .f64 x y = some w ∧ Rep w (m * n) := by
  obtain ⟨s, a, k, ex, rfl⟩ := hx
  obtain ⟨t, b, l, ey, rfl⟩ := hy
  have ha : a * b < 2 ^ 53 := by
    rw [Int.natAbs_mul] at h
    have e1 : (if s = true then -(a : Int) else a).natAbs = a := by cases s <;> simp
    have e2 : (if t = true then -(b : Int) else b).natAbs = b := by cases t <;> simp
    rwa [e1, e2] at h
  refine ⟨double.write (.number (s ^^ t) (a * b * 2 ^ (k + l)) (-((k + l : Nat) : Int))), ?_, ?_⟩
  · show double.mul x y = _
    unfold Format.mul
    rw [ex, ey]
    simp only [Datum.product, Option.map_some]
    congr 3
    · rw [Nat.pow_add]; simp only [Nat.mul_assoc, Nat.mul_left_comm]
    · omega
  · have := rep_write (s ^^ t) (a * b) (k + l) ha
    have e : (if (s ^^ t) = true then -((a * b : Nat) : Int) else ((a * b : Nat) : Int)) = (if s = true then -(a : Int) else a) * (if t = true then -(b : Int) else b) := by
      cases s <;> cases t <;> simp [Int.neg_mul, Int.mul_neg]
    rwa [e] at this

theorem rep_sum {x : Nat} {d : Datum} {m n : Int} (hx : Rep x m) (hd : ∃ (t : Bool) (b l : Nat), d = .number t (b * 2 ^ l) (-((l : Nat) : Int)) ∧ n = (if t then -((b : Nat) : Int) else b)) (h : (m + n).natAbs < 2 ^ 53) :
    ∃ w, ((double.read x).sum d).map double.write = some w ∧ Rep w (m + n) := by
  obtain ⟨s, a, k, ex, rfl⟩ := hx
  obtain ⟨t, b, l, rfl, rfl⟩ := hd
  rw [ex]
  simp only [Datum.sum, Option.map_some]
  have hmin : min (-(k : Int)) (-(l : Int)) = -((max k l : Nat) : Int) := by omega
  rw [hmin]
  have t1 : signed s (a * 2 ^ k) (-(k : Int) - -((max k l : Nat) : Int)).toNat = (if s then -(a : Int) else a) * 2 ^ (max k l) := by
    rw [show (-(k : Int) - -((max k l : Nat) : Int)).toNat = max k l - k by omega, signed_mul]
    have : (2 : Int) ^ (max k l) = 2 ^ k * 2 ^ (max k l - k) := by rw [← Int.pow_add]; congr 1; omega
    rw [this]; cases s <;> simp [Int.mul_assoc, Int.neg_mul]
  have t2 : signed t (b * 2 ^ l) (-(l : Int) - -((max k l : Nat) : Int)).toNat = (if t then -(b : Int) else b) * 2 ^ (max k l) := by
    rw [show (-(l : Int) - -((max k l : Nat) : Int)).toNat = max k l - l by omega, signed_mul]
    have : (2 : Int) ^ (max k l) = 2 ^ l * 2 ^ (max k l - l) := by rw [← Int.pow_add]; congr 1; omega
    rw [this]; cases t <;> simp [Int.mul_assoc, Int.neg_mul]
  rw [t1, t2, ← Int.add_mul]
  generalize hm : (if s = true then -(a : Int) else a) = m at *
  generalize hn : (if t = true then -(b : Int) else b) = n at *
  generalize max k l = K
  have hK : (0 : Int) < 2 ^ K := Int.pow_pos (by omega)
  have hz : ((m + n) * 2 ^ K = 0) ↔ m + n = 0 := by
    constructor
    · intro h; rcases Int.mul_eq_zero.1 h with h | h <;> omega
    · intro h; rw [h]; simp
  have hlt : ((m + n) * 2 ^ K < 0) ↔ m + n < 0 := by
    constructor
    · intro h
      rcases (show m + n < 0 ∨ 0 ≤ m + n by omega) with h' | h'
      · exact h'
      · have := Int.mul_nonneg h' (Int.le_of_lt hK); omega
    · intro h; exact Int.mul_neg_of_neg_of_pos h hK
  have hab : ((m + n) * 2 ^ K).natAbs = (m + n).natAbs * 2 ^ K := by
    rw [Int.natAbs_mul, Int.natAbs_pow]; rfl
  rw [hab]
  refine ⟨_, rfl, ?_⟩
  have := rep_write (if (m + n) * 2 ^ K = 0 then s && t else decide ((m + n) * 2 ^ K < 0)) (m + n).natAbs K h
  have e : (if (if (m + n) * 2 ^ K = 0 then s && t else decide ((m + n) * 2 ^ K < 0)) = true then -((m + n).natAbs : Int) else ((m + n).natAbs : Int)) = m + n := by
    simp only [hz, hlt]
    by_cases h0 : m + n = 0
    · simp [h0]
    · simp only [h0, if_false]
      by_cases h1 : m + n < 0
      · simp [h1]; omega
      · simp [h1]; omega
  rwa [e] at this

theorem rep_add {x y : Nat} {m n : Int} (hx : Rep x m) (hy : Rep y n) (h : (m + n).natAbs < 2 ^ 53) : ∃ w, floatBits .add .f64 x y = some w ∧ Rep w (m + n) := by
  show ∃ w, double.add x y = some w ∧ _
  unfold Format.add
  obtain ⟨t, b, l, ey, e⟩ := hy
  exact rep_sum hx ⟨t, b, l, ey, e⟩ h
theorem rep_sub {x y : Nat} {m n : Int} (hx : Rep x m) (hy : Rep y n) (h : (m - n).natAbs < 2 ^ 53) : ∃ w, floatBits .sub .f64 x y = some w ∧ Rep w (m - n) := by
  show ∃ w, double.sub x y = some w ∧ _
  unfold Format.sub
  obtain ⟨t, b, l, ey, rfl⟩ := hy
  have e : m - (if t = true then -(b : Int) else b) = m + (if (!t) = true then -(b : Int) else b) := by cases t <;> simp <;> omega
  rw [e] at h ⊢
  exact rep_sum hx ⟨!t, b, l, by rw [ey]; rfl, rfl⟩ h

theorem rep_order {x y : Nat} {m n : Int} (hx : Rep x m) (hy : Rep y n) : FloatKind.f64.format.order x y = some (compare m n) := by
  show double.order x y = _
  obtain ⟨s, a, k, ex, rfl⟩ := hx
  obtain ⟨t, b, l, ey, rfl⟩ := hy
  unfold Format.order
  rw [ex, ey]
  simp only [Datum.order]
  have hmin : min (-(k : Int)) (-(l : Int)) = -((max k l : Nat) : Int) := by omega
  rw [hmin]
  have t1 : signed s (a * 2 ^ k) (-(k : Int) - -((max k l : Nat) : Int)).toNat = (if s then -(a : Int) else a) * 2 ^ (max k l) := by
    rw [show (-(k : Int) - -((max k l : Nat) : Int)).toNat = max k l - k by omega, signed_mul]
    have : (2 : Int) ^ (max k l) = 2 ^ k * 2 ^ (max k l - k) := by rw [← Int.pow_add]; congr 1; omega
    rw [this]; cases s <;> simp [Int.mul_assoc, Int.neg_mul]
  have t2 : signed t (b * 2 ^ l) (-(l : Int) - -((max k l : Nat) : Int)).toNat = (if t then -(b : Int) else b) * 2 ^ (max k l) := by
    rw [show (-(l : Int) - -((max k l : Nat) : Int)).toNat = max k l - l by omega, signed_mul]
    have : (2 : Int) ^ (max k l) = 2 ^ l * 2 ^ (max k l - l) := by rw [← Int.pow_add]; congr 1; omega
    rw [this]; cases t <;> simp [Int.mul_assoc, Int.neg_mul]
  rw [t1, t2]
  generalize (if s = true then -(a : Int) else a) = m
  generalize (if t = true then -(b : Int) else b) = n
  generalize max k l = K
  have hK : (0 : Int) < 2 ^ K := Int.pow_pos (by omega)
  congr 1
  simp only [compare, compareOfLessAndEq]
  have h1 : (m * 2 ^ K < n * 2 ^ K) ↔ m < n := Int.mul_lt_mul_right hK
  have h2 : (m * 2 ^ K = n * 2 ^ K) ↔ m = n := Int.mul_eq_mul_right_iff (by omega)
  simp only [h1, h2]

theorem rep_eq {x y : Nat} {m n : Int} (hx : Rep x m) (hy : Rep y n) : (FloatKind.f64.format.order x y == some .eq) = decide (m = n) := by
  rw [rep_order hx hy]
  by_cases h : m = n
  · subst h; simp [compare, compareOfLessAndEq]
  · by_cases h2 : m < n
    · simp [compare, compareOfLessAndEq, h, h2]
    · simp [compare, compareOfLessAndEq, h, h2]

theorem rep_toInt {x : Nat} {m : Int} (hx : Rep x m) (h1 : -9223372036854775808 ≤ m) (h2 : m ≤ 9223372036854775807) : floatToIntVal .f64 x .i64 = some m := by
  obtain ⟨s, a, k, ex, rfl⟩ := hx
  unfold floatToIntVal
  have e : (FloatKind.f64.decode x).toInt .zero = some (if s then -(a : Int) else a) := by
    show (double.read x).toInt .zero = _
    rw [ex]
    simp only [Datum.toInt, Datum.integral]
    rw [show (-(k : Int)).toNat = 0 by omega, show (- -(k : Int)).toNat = k by omega, Nat.shiftLeft_zero, cut_exact, signed_mul]
    simp
  rw [e]
  simp only
  rw [if_pos]
  exact ⟨h1, h2⟩

theorem rep_one : Rep 4607182418800017408 1 := ⟨false, 1, 52, by decide, rfl⟩
theorem rep_zero : Rep 0 0 := by
  have := rep_nearest 0 (by decide)
  have e : FloatKind.f64.nearest 0 = 0 := by decide
  rwa [e] at this
end Go.Proofs.Ytbodaohbmekekaa.Fl

/- The document's numbers, texts and readers of layer 2 are pack's. Conditions: those that each theorem names. -/
import Derived.Test.YtblabgdkbcphkaaZz
import Derived.Test.YtblabgdkbcphkaaPDrx
set_option linter.unusedVariables false
set_option linter.unusedSimpArgs false
namespace Go.Proofs.Ytblabgdkbcphkaa
open Go.RowKit Go.Proofs.YtblabgdkbcphkaaW.PrintWords PDr

theorem bl_zero : byteLen 0 = 0 := by decide
theorem bl_div (m : Nat) (h64 : m < 2 ^ 64) (h : 1 ≤ m) : byteLen m = byteLen (m / 256) + 1 := by
  obtain ⟨h1, h2⟩ := byteLen_lt h64 h
  obtain ⟨k, hk⟩ : ∃ k, byteLen m = k + 1 := ⟨byteLen m - 1, by have := byteLen_range h64 h; omega⟩
  rw [hk] at h1 h2 ⊢
  have h8 := (byteLen_range h64 h).2
  rw [Nat.add_sub_cancel] at h2
  rcases k with _ | k
  · have : m / 256 = 0 := by simp at h1; omega
    rw [this, bl_zero]
  · rw [byteLen_eq (x := m / 256) (k := k) (by omega)]
    · rw [Nat.le_div_iff_mul_le (by decide)]; rw [Nat.pow_succ] at h2; exact h2
    · rw [Nat.div_lt_iff_lt_mul (by decide)]; rw [Nat.pow_succ] at h1; exact h1
theorem beTo_snoc (m k : Nat) : beTo (k + 1) m (k + 1) = beTo k (m / 256) k ++ [((m % 256 : Nat) : Int)] := by
  rw [beTo_succ]
  congr 1
  · have h := beTo_up k (m / 256) (m % 256) (Nat.mod_lt _ (by decide)) k (Nat.le_refl _)
    rw [show m / 256 * 256 + m % 256 = m by omega] at h
    exact h
  · rw [show k + 1 - 1 - k = 0 by omega, Nat.pow_zero, Nat.div_one]
theorem ref_l0 : ∀ (k : Nat) (m : Nat) (xs : List Int), m < 2 ^ 64 → byteLen m < k → byteLen m + xs.length ≤ 8 →
    dovecoteref02_Number.l0 k xs (m : Int) = some (strOfNums [247 + ((byteLen m + xs.length : Nat) : Int)] ++ strOfNums (beTo (byteLen m) m (byteLen m) ++ xs)) := by
  intro k
  induction k with
  | zero => intro m xs _ h _; omega
  | succ k ih =>
    intro m xs hm hk hx
    unfold dovecoteref02_Number.l0
    rcases (show m = 0 ∨ 1 ≤ m by omega) with h0 | h0
    · subst h0
      rw [if_neg (by simp), bl_zero] at *
      simp only [Option.bind_some]
      have e : wrap64 (247 + (xs.length : Int)) % 256 = 247 + (xs.length : Int) := by unfold wrap64; omega
      rw [if_pos (by rw [size_nums, size_nums]; simp; omega), e]
      simp [beTo]
    · have hd := bl_div m hm h0
      rw [if_pos (by omega)]
      simp only [Option.bind_some]
      have e1 : Int.tmod (m : Int) 256 % 256 = ((m % 256 : Nat) : Int) := by rw [Int.tmod_eq_emod_of_nonneg (by omega)]; omega
      have e2 : IntKind.u64.wrap (Int.tdiv (m : Int) 256) = ((m / 256 : Nat) : Int) := by
        rw [Int.tdiv_eq_ediv_of_nonneg (by omega), u64_id _ (by omega) (by omega)]; omega
      rw [e1, e2, if_pos (by simp; omega), ih (m / 256) _ (by omega) (by omega) (by simp; omega), hd, beTo_snoc]
      congr 3
      · simp; omega
      · simp
theorem number_fk (k : Nat) (hk : 9 ≤ k) (n : Int) (h0 : 0 ≤ n) (h1 : n ≤ 18446744073709551615) : dovecoteref02_Number.f k n = some (encB n) := by
  unfold dovecoteref02_Number.f encB encN
  by_cases h : n < 248
  · rw [if_pos h, if_pos h, Int.emod_eq_of_lt h0 (by omega)]
  · rw [if_neg h, if_neg h]
    have hr := byteLen_range (x := n.toNat) (by omega) (by omega)
    have := ref_l0 k n.toNat [] (by omega) (by omega) (by simp; omega)
    rw [show ((n.toNat : Nat) : Int) = n by omega] at this
    rw [this, ← strOfNums_append]
    simp
/-! The reader's Number. -/
end Go.Proofs.Ytblabgdkbcphkaa

/- The document's numbers, texts, flags and stamps are the Writer's. Conditions: those that each theorem names. -/
import Derived.Test.YtjfokbkfniilhaaLe
import Derived.Test.YtjfokbkfniilhaaZz
import Derived.Test.YtjfokbkfniilhaaPRfx
set_option linter.unusedVariables false
set_option linter.unusedSimpArgs false
namespace Go.Proofs.Ytjfokbkfniilhaa
open Go.RowKit Go.Proofs.YtjfokbkfniilhaaW.PrintWords PRf

theorem bl_zero : byteLen 0 = 0 := by decide
theorem bl_div (m : Nat) (h64 : m < 2 ^ 64) (h : 1 ≤ m) : byteLen m = byteLen (m / 256) + 1 := by
  obtain ⟨h1, h2⟩ := byteLen_lt h64 h
  obtain ⟨k, hk⟩ : ∃ k, byteLen m = k + 1 := ⟨byteLen m - 1, by have := byteLen_range h64 h; omega⟩
  rw [hk] at h1 h2 ⊢
  have h8 := (byteLen_range h64 h).2
  rw [Nat.add_sub_cancel] at h2
  rcases k with _ | k
  · have : m / 256 = 0 := by simp at h1; omega
    rw [this, bl_zero]
  · rw [byteLen_eq (x := m / 256) (k := k) (by omega)]
    · rw [Nat.le_div_iff_mul_le (by decide)]; rw [Nat.pow_succ] at h2; exact h2
    · rw [Nat.div_lt_iff_lt_mul (by decide)]; rw [Nat.pow_succ] at h1; exact h1
theorem beTo_snoc (m k : Nat) : beTo (k + 1) m (k + 1) = beTo k (m / 256) k ++ [((m % 256 : Nat) : Int)] := by
  rw [beTo_succ]
  congr 1
  · have h := beTo_up k (m / 256) (m % 256) (Nat.mod_lt _ (by decide)) k (Nat.le_refl _)
    rw [show m / 256 * 256 + m % 256 = m by omega] at h
    exact h
  · rw [show k + 1 - 1 - k = 0 by omega, Nat.pow_zero, Nat.div_one]
theorem ref_l0 : ∀ (k : Nat) (m : Nat) (xs : List Int), m < 2 ^ 64 → byteLen m < k → byteLen m + xs.length ≤ 8 →
    dovecoteref02_Number.l0 k xs (m : Int) = some (strOfNums [247 + ((byteLen m + xs.length : Nat) : Int)] ++ strOfNums (beTo (byteLen m) m (byteLen m) ++ xs)) := by
  intro k
  induction k with
  | zero => intro m xs _ h _; omega
  | succ k ih =>
    intro m xs hm hk hx
    unfold dovecoteref02_Number.l0
    rcases (show m = 0 ∨ 1 ≤ m by omega) with h0 | h0
    · subst h0
      rw [if_neg (by simp), bl_zero] at *
      simp only [Option.bind_some]
      have e : wrap64 (247 + (xs.length : Int)) % 256 = 247 + (xs.length : Int) := by unfold wrap64; omega
      rw [if_pos (by rw [size_nums, size_nums]; simp; omega), e]
      simp [beTo]
    · have hd := bl_div m hm h0
      rw [if_pos (by omega)]
      simp only [Option.bind_some]
      have e1 : Int.tmod (m : Int) 256 % 256 = ((m % 256 : Nat) : Int) := by rw [Int.tmod_eq_emod_of_nonneg (by omega)]; omega
      have e2 : IntKind.u64.wrap (Int.tdiv (m : Int) 256) = ((m / 256 : Nat) : Int) := by
        rw [Int.tdiv_eq_ediv_of_nonneg (by omega), u64_id _ (by omega) (by omega)]; omega
      rw [e1, e2, if_pos (by simp; omega), ih (m / 256) _ (by omega) (by omega) (by simp; omega), hd, beTo_snoc]
      congr 3
      · simp; omega
      · simp
theorem number_f (n : Int) (h0 : 0 ≤ n) (h1 : n ≤ 18446744073709551615) : dovecoteref02_Number.f 10 n = some (encB n) := by
  unfold dovecoteref02_Number.f encB encN
  by_cases h : n < 248
  · rw [if_pos h, if_pos h, Int.emod_eq_of_lt h0 (by omega)]
  · rw [if_neg h, if_neg h]
    have hr := byteLen_range (x := n.toNat) (by omega) (by omega)
    have := ref_l0 10 n.toNat [] (by omega) (by omega) (by simp; omega)
    rw [show ((n.toNat : Nat) : Int) = n by omega] at this
    rw [this, ← strOfNums_append]
    simp
set_option maxHeartbeats 1000000 in
theorem ref_number (n : Int) (h0 : 0 ≤ n) (h1 : n ≤ 18446744073709551615) (w : World) : Calls Try.prog 47 #[.int .u64 n] w fun e w' => e = .returned (.string (encB n)) ∧ Below w.heap.size w w' :=
  dovecoteref02_Number.calls 10 n _ w (number_f n h0 h1)
theorem ref_flag (b : Bool) (w : World) : Calls Try.prog 20 #[.bool b] w fun e w' => e = .returned (.string (encF b)) ∧ Below w.heap.size w w' :=
  (dovecoteref02_Flag.calls b _ w (by cases b <;> rfl)).mono fun _ _ ⟨h, k⟩ => ⟨h, k.below⟩
set_option maxRecDepth 100000 in
set_option maxHeartbeats 1000000 in
theorem ref_text (s : ByteArray) (h : s.size ≤ 100000) (w : World) : Calls Try.prog 23 #[.string s] w fun e w' => e = .returned (.string (encB s.size ++ s)) ∧ Below w.heap.size w w' := by
  have hsz := encB_size (n := (s.size : Int)) (by omega)
  go_enter Try.func23, Try.ntmps23
  go_wp2_with fail
  refine (ref_number _ (by omega) (by omega) _).mono ?_
  rintro e w1 ⟨rfl, hB⟩
  have HB := Lib.hid hB
  clear hB
  generalize hu : encB s.size = u at *
  have Hu := Lib.hid hu
  clear hu
  go_wp2
  go_ret
  exact ⟨by rw [Hu.out]; rfl, HB.out⟩
theorem stamp_ref (p l : Int) (hp : 0 ≤ p ∧ p ≤ 18446744073709551615) (hl : 0 ≤ l ∧ l ≤ 4294967295) : dovecoteref02_Stamp.f 10 p l = some (encB p ++ encB l) := by
  unfold dovecoteref02_Stamp.f
  rw [u64_id _ hl.1 (by omega), number_f _ hp.1 hp.2, Option.bind_some, number_f _ hl.1 (by omega), Option.bind_some]
  have := encB_size hp.2
  have := encB_size (n := l) (by omega)
  rw [if_pos (by omega)]
theorem ref_stamp (p l : Int) (hp : 0 ≤ p ∧ p ≤ 18446744073709551615) (hl : 0 ≤ l ∧ l ≤ 4294967295) (w : World) : Calls Try.prog 22 #[.agg #[.int .u64 p, .int .u32 l]] w fun e w' => e = .returned (.string (encB p ++ encB l)) ∧ Below w.heap.size w w' :=
  dovecoteref02_Stamp.calls 10 p l _ w (stamp_ref p l hp hl)
theorem num_ref (n : Int) (h0 : 0 ≤ n) (h1 : n ≤ 18446744073709551615) : dovecoteref15_num.f 10 n = some (encB n) := by
  unfold dovecoteref15_num.f
  rw [number_f _ h0 h1, Option.bind_some]
theorem ref_num (n : Int) (h0 : 0 ≤ n) (h1 : n ≤ 9223372036854775807) (w : World) : Calls Try.prog 19 #[.int .u64 (IntKind.u64.wrap n)] w fun e w' => e = .returned (.string (encB n)) ∧ Below w.heap.size w w' := by
  rw [u64_id _ h0 h1]
  exact dovecoteref15_num.calls 10 n _ w (num_ref n h0 (by omega))
theorem txn_ref (a b : Int) (ha : U32 a) (hb : U32 b) : dovecoteref15_txn.f 10 a b = some (encB a ++ encB b) := by
  unfold dovecoteref15_txn.f
  obtain ⟨a0, a1⟩ := ha
  obtain ⟨b0, b1⟩ := hb
  rw [u64_id _ a0 (by omega), u64_id _ b0 (by omega), num_ref _ a0 (by omega), Option.bind_some, num_ref _ b0 (by omega), Option.bind_some]
  have := encB_size (n := a) (by omega)
  have := encB_size (n := b) (by omega)
  rw [if_pos (by omega)]
theorem ref_txn (a b : Int) (ha : U32 a) (hb : U32 b) (w : World) : Calls Try.prog 21 #[.agg #[.int .u32 a, .int .u32 b]] w fun e w' => e = .returned (.string (encB a ++ encB b)) ∧ Below w.heap.size w w' :=
  dovecoteref15_txn.calls 10 a b _ w (txn_ref a b ha hb)
end Go.Proofs.Ytjfokbkfniilhaa

/- What the Reader reads of what the Writer wrote, and the other way round, for all kinds. No program in sight. -/
import Derived.Test.YtbmodiomoogffaaRz
import Derived.Test.YtbmodiomoogffaaWs
set_option linter.unusedVariables false
set_option linter.unusedSimpArgs false
namespace Go.Proofs.Ytbmodiomoogffaa
open Go.RowKit Go.Proofs.YtbmodiomoogffaaW.PrintWords PRd

theorem extract_left (a b : ByteArray) (n : Nat) (h : n = a.size) : (a ++ b).extract 0 n = a := by
  apply bytes_ext
  rw [bytesOf_extract, bytesOf_append, List.drop_zero, List.take_left' (by rw [bytesOf_length, h])]
theorem extract_right (a b : ByteArray) (n m : Nat) (h : n = a.size) (hm : m = a.size + b.size) : (a ++ b).extract n m = b := by
  apply bytes_ext
  rw [bytesOf_extract, bytesOf_append, List.take_of_length_le (by rw [List.length_append, bytesOf_length, bytesOf_length]; omega), List.drop_left' (by rw [bytesOf_length, h])]
theorem extract_both (s : ByteArray) (n : Nat) : s = s.extract 0 n ++ s.extract n s.size := by
  apply bytes_ext
  rw [bytesOf_append, bytesOf_extract, bytesOf_extract, ← bytesOf_length, List.take_length, List.drop_zero, List.take_append_drop]
theorem size0 {s : ByteArray} (h : s.size = 0) : s = ByteArray.empty := by
  apply bytes_ext
  rw [bytesOf_empty]
  exact List.eq_nil_of_length_eq_zero (by rw [bytesOf_length]; exact h)

/-! ### Behind an error nothing is left -/
theorem rdNum_left (s : ByteArray) (er m : Int) (hm : 0 ≤ m) (hi : er ≠ 0 → s = ByteArray.empty) : (rdNum s er m).2.2 ≠ 0 → (rdNum s er m).2.1 = ByteArray.empty := by
  unfold rdNum
  split
  · intro h
    rcases (numR_facts s m hm).2.2.2 with h2 | h2
    · exact absurd h2 h
    · exact h2.2
  · exact hi
theorem rdText_left (s : ByteArray) (er lo hi : Int) (hq : er ≠ 0 → s = ByteArray.empty) : (rdText s er lo hi).2.2 ≠ 0 → (rdText s er lo hi).2.1 = ByteArray.empty := by
  have h := rdNum_left s er M64 (by decide) hq
  unfold rdText
  split
  · split
    · exact fun _ => rfl
    · split
      · exact fun _ => rfl
      · exact fun hh => absurd rfl hh
  · exact h
theorem rdStamp_left (s : ByteArray) (er : Int) (hq : er ≠ 0 → s = ByteArray.empty) : (rdStamp s er).2.2.2 ≠ 0 → (rdStamp s er).2.2.1 = ByteArray.empty := by
  have h := rdNum_left _ _ 4095 (by decide) (rdNum_left s er 281474976710656 (by decide) hq)
  unfold rdStamp
  dsimp only
  split
  · exact fun hh => absurd rfl hh
  · exact h
theorem rdFlag_left (s : ByteArray) (er : Int) (hq : er ≠ 0 → s = ByteArray.empty) : (rdFlag s er).2.2 ≠ 0 → (rdFlag s er).2.1 = ByteArray.empty := by
  unfold rdFlag
  split
  · split
    · exact fun _ => rfl
    · split
      · exact fun _ => rfl
      · exact fun hh => absurd rfl hh
  · exact hq
/-! ### What was read stood there -/
theorem rdNum_inv (s : ByteArray) (er m : Int) (h : (rdNum s er m).2.2 = 0) : er = 0 ∧ s = encB (rdNum s er m).1 ++ (rdNum s er m).2.1 ∧ 0 ≤ (rdNum s er m).1 ∧ (rdNum s er m).1 ≤ m ∧ (rdNum s er m).1 ≤ 18446744073709551615 := by
  unfold rdNum at *
  split at h
  · rename_i h0
    rw [if_pos h0]
    obtain ⟨a, b, c, d⟩ := numR_inv s m (numR s m).1 (numR s m).2.1 (by rw [← h])
    exact ⟨h0, a, b, c, d⟩
  · rename_i h0
    exact absurd h h0
theorem rdText_inv (s : ByteArray) (er lo hi : Int) (h : (rdText s er lo hi).2.2 = 0) : er = 0 ∧ s = encB (rdText s er lo hi).1.size ++ (rdText s er lo hi).1 ++ (rdText s er lo hi).2.1 ∧ ((rdText s er lo hi).1.size : Int) ≤ hi ∧ mx lo 0 ≤ ((rdText s er lo hi).1.size : Int) := by
  unfold rdText at *
  split at h
  · rename_i h0
    rw [if_pos h0]
    obtain ⟨a, b, c, d, e⟩ := rdNum_inv s er M64 h0
    generalize rdNum s er M64 = q at *
    split at h
    · simp at h
    · rename_i h1
      rw [if_neg h1]
      split at h
      · simp at h
      · rename_i h2
        rw [if_neg h2]
        have hsz : ((q.2.1.extract 0 q.1.toNat).size : Int) = q.1 := by rw [ByteArray.size_extract]; omega
        refine ⟨a, ?_, by rw [hsz]; omega, by rw [hsz]; omega⟩
        show s = encB _ ++ _ ++ _
        rw [hsz, ByteArray.append_assoc, ← extract_both]
        exact b
  · exact absurd h (by assumption)
theorem rdStamp_inv (s : ByteArray) (er : Int) (h : (rdStamp s er).2.2.2 = 0) : er = 0 ∧ s = encB (rdStamp s er).1 ++ encB (rdStamp s er).2.1 ++ (rdStamp s er).2.2.1 ∧ 0 ≤ (rdStamp s er).1 ∧ (rdStamp s er).1 ≤ 281474976710656 ∧ 0 ≤ (rdStamp s er).2.1 ∧ (rdStamp s er).2.1 ≤ 4095 := by
  unfold rdStamp at *
  dsimp only at *
  split at h
  · rename_i h0
    rw [if_pos h0]
    obtain ⟨a, b, c, d, e⟩ := rdNum_inv _ _ _ h0
    obtain ⟨a1, b1, c1, d1, e1⟩ := rdNum_inv _ _ _ a
    refine ⟨a1, ?_, c1, d1, c, d⟩
    rw [ByteArray.append_assoc, ← b]
    exact b1
  · exact absurd h (by assumption)
theorem rdFlag_inv (s : ByteArray) (er : Int) (h : (rdFlag s er).2.2 = 0) : er = 0 ∧ s = encF (rdFlag s er).1 ++ (rdFlag s er).2.1 := by
  unfold rdFlag at *
  split at h
  · rename_i h0
    rw [if_pos h0]
    split at h
    · simp at h
    · rename_i h1
      rw [if_neg h1]
      split at h
      · simp at h
      · rename_i h2
        rw [if_neg h2]
        refine ⟨h0, ?_⟩
        have hb0 : bt s 0 = (bytesOf s).getD 0 0 := bt_get s 0
        have hr := bt_range s 0
        have hlen := bytesOf_length s
        apply bytes_ext
        rw [bytesOf_append, bytesOf_extract, ← hlen, List.take_length]
        have : bytesOf (encF (decide (bt s 0 = 1))) = [bt s 0] := by
          unfold encF
          rcases (show bt s 0 = 0 ∨ bt s 0 = 1 by omega) with hq | hq <;> rw [hq] <;> rfl
        show _ = bytesOf (encF _) ++ _
        rw [this, hb0]
        cases hl : bytesOf s with
        | nil => rw [hl] at hlen; simp at hlen; omega
        | cons a l => simp
  · exact absurd h (by assumption)
/-! ### What was written is read -/
theorem rdNum_enc (n m : Int) (t : ByteArray) (h0 : 0 ≤ n) (h1 : n ≤ 18446744073709551615) (hm : n ≤ m) : rdNum (encB n ++ t) 0 m = (n, t, 0) := by
  unfold rdNum
  rw [if_pos rfl, numR_enc n m t h0 h1, if_pos hm]
theorem rdText_enc (x t : ByteArray) (lo hi : Int) (hx : x.size ≤ 9223372036854775807) (hl : lo ≤ x.size) (hh : (x.size : Int) ≤ hi) : rdText (encB x.size ++ x ++ t) 0 lo hi = (x, t, 0) := by
  unfold rdText
  rw [ByteArray.append_assoc, rdNum_enc _ _ _ (by omega) (by omega) (by show (x.size : Int) ≤ 18446744073709551615; omega)]
  dsimp only
  have hm : mx lo 0 ≤ (x.size : Int) := by unfold mx; split <;> omega
  rw [if_pos rfl, if_neg (by omega), ByteArray.size_append, if_neg (by omega), Int.toNat_natCast, extract_left _ _ _ rfl, extract_right _ _ _ _ rfl rfl]
theorem rdStamp_enc (p l : Int) (t : ByteArray) (h0 : 0 ≤ p) (h1 : p ≤ 281474976710656) (h2 : 0 ≤ l) (h3 : l ≤ 4095) : rdStamp (encB p ++ encB l ++ t) 0 = (p, l, t, 0) := by
  unfold rdStamp
  rw [ByteArray.append_assoc, rdNum_enc _ _ _ h0 (by omega) h1]
  dsimp only
  rw [rdNum_enc _ _ _ h2 (by omega) h3, if_pos rfl]
theorem rdFlag_enc (b : Bool) (t : ByteArray) : rdFlag (encF b ++ t) 0 = (b, t, 0) := by
  unfold rdFlag
  have h1 := encF_size b
  have hb : bt (encF b ++ t) 0 = flagN b := by
    have := bt_get (encF b ++ t) 0
    refine this.trans ?_
    rw [bytesOf_append]
    cases b <;> rfl
  rw [if_pos rfl, hb, if_neg (by rw [ByteArray.size_append]; omega), if_neg (by cases b <;> decide), extract_right _ _ _ _ h1.symm (by rw [ByteArray.size_append])]
  cases b <;> rfl
end Go.Proofs.Ytbmodiomoogffaa

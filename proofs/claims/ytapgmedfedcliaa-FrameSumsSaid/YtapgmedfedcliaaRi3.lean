/- What the Reader reads of what the Writer wrote, numbers. No program in sight. -/
import Derived.Test.YtapgmedfedcliaaRz3
set_option linter.unusedVariables false
set_option linter.unusedSimpArgs false
namespace Go.Proofs.Ytapgmedfedcliaa
open Go.RowKit Go.Proofs.YtapgmedfedcliaaW.PrintWords PRd

theorem extract_left (a b : ByteArray) (n : Nat) (h : n = a.size) : (a ++ b).extract 0 n = a := by
  apply bytes_ext
  rw [bytesOf_extract, bytesOf_append, List.drop_zero, List.take_left' (by rw [bytesOf_length, h])]
theorem extract_right (a b : ByteArray) (n m : Nat) (h : n = a.size) (hm : m = a.size + b.size) : (a ++ b).extract n m = b := by
  apply bytes_ext
  rw [bytesOf_extract, bytesOf_append, List.take_of_length_le (by rw [List.length_append, bytesOf_length, bytesOf_length]; omega), List.drop_left' (by rw [bytesOf_length, h])]
theorem extract_both (s : ByteArray) (n : Nat) : s = s.extract 0 n ++ s.extract n s.size := by
  apply bytes_ext
  rw [bytesOf_append, bytesOf_extract, bytesOf_extract, ← bytesOf_length, List.take_length, List.drop_zero, List.take_append_drop]
theorem size0 {s : ByteArray} (h : s.size = 0) : s = ByteArray.empty := by
  apply bytes_ext
  rw [bytesOf_empty]
  exact List.eq_nil_of_length_eq_zero (by rw [bytesOf_length]; exact h)

/-! ### Behind an error nothing is left -/
theorem rdNum_left (s : ByteArray) (er m : Int) (hm : 0 ≤ m) (hi : er ≠ 0 → s = ByteArray.empty) : (rdNum s er m).2.2 ≠ 0 → (rdNum s er m).2.1 = ByteArray.empty := by
  unfold rdNum
  split
  · intro h
    rcases (numR_facts s m hm).2.2.2 with h2 | h2
    · exact absurd h2 h
    · exact h2.2
  · exact hi
/-! ### What was read stood there -/
theorem rdNum_inv (s : ByteArray) (er m : Int) (h : (rdNum s er m).2.2 = 0) : er = 0 ∧ s = encB (rdNum s er m).1 ++ (rdNum s er m).2.1 ∧ 0 ≤ (rdNum s er m).1 ∧ (rdNum s er m).1 ≤ m ∧ (rdNum s er m).1 ≤ 18446744073709551615 := by
  unfold rdNum at *
  split at h
  · rename_i h0
    rw [if_pos h0]
    obtain ⟨a, b, c, d⟩ := numR_inv s m (numR s m).1 (numR s m).2.1 (by rw [← h])
    exact ⟨h0, a, b, c, d⟩
  · rename_i h0
    exact absurd h h0
/-! ### What was written is read -/
theorem rdNum_enc (n m : Int) (t : ByteArray) (h0 : 0 ≤ n) (h1 : n ≤ 18446744073709551615) (hm : n ≤ m) : rdNum (encB n ++ t) 0 m = (n, t, 0) := by
  unfold rdNum
  rw [if_pos rfl, numR_enc n m t h0 h1, if_pos hm]
end Go.Proofs.Ytapgmedfedcliaa

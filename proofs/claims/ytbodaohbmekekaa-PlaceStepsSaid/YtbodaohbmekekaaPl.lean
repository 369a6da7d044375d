/- Plain laws of the walk: of two texts one behind the other. No program in sight. -/
import Derived.Test.YtbodaohbmekekaaAwake
set_option linter.unusedVariables false
set_option linter.unusedSimpArgs false
namespace Go.Proofs.Ytbodaohbmekekaa
open Go.RowKit Go.Proofs.YtbodaohbmekekaaW.PrintWords

def rot (p : Int × Int) : Int × Int := (-p.2, p.1)
def rotN : Nat → Int × Int → Int × Int
  | 0, p => p
  | n + 1, p => rot (rotN n p)
theorem rotN_four (n : Nat) (p : Int × Int) : rotN (n + 4) p = rotN n p := by
  simp [rotN, rot]
theorem rotN_mod (n : Nat) (p : Int × Int) : rotN n p = rotN (n % 4) p := by
  induction n using Nat.strongRecOn with
  | ind n ih =>
    by_cases h : n < 4
    · rw [Nat.mod_eq_of_lt h]
    · obtain ⟨m, rfl⟩ : ∃ m, n = m + 4 := ⟨n - 4, by omega⟩
      rw [rotN_four, ih m (by omega)]
      congr 1
      omega
theorem size_append (a b : ByteArray) : (a ++ b).size = a.size + b.size := ByteArray.size_append
theorem bt_append (a b : ByteArray) (i : Nat) : bt (a ++ b) i = if i < a.size then bt a i else bt b ((i - a.size : Nat) : Int) := by
  unfold bt
  simp only [Int.toNat_natCast, size_append]
  by_cases h : i < a.size
  · simp only [h, if_true, dif_pos, show i < a.size + b.size by omega]
    rw [ByteArray.getElem_append_left h]
  · simp only [h, if_false]
    by_cases h2 : i < a.size + b.size
    · simp only [h2, dif_pos, show i - a.size < b.size by omega]
      rw [ByteArray.getElem_append_right (by omega)]
    · simp only [h2, show ¬ i - a.size < b.size by omega]
      rfl
theorem wk_append_left (a b : ByteArray) (n : Nat) (h : n ≤ a.size) : wk (a ++ b) n = wk a n := by
  induction n with
  | zero => rfl
  | succ n ih => simp only [wk]; rw [ih (by omega), bt_append, if_pos (by omega)]
theorem wk_append (a b : ByteArray) (n : Nat) : wk (a ++ b) (a.size + n) = ((rotN n (wk a a.size)).1 + (wk b n).1, (rotN n (wk a a.size)).2 + (wk b n).2) := by
  induction n with
  | zero => rw [Nat.add_zero, wk_append_left _ _ _ (Nat.le_refl _)]; simp [rotN, wk]
  | succ n ih =>
    rw [← Nat.add_assoc]
    simp only [wk, rotN, rot]
    rw [ih, bt_append, if_neg (by omega), show a.size + n - a.size = n by omega]
    refine Prod.ext ?_ ?_
    · dsimp only; omega
    · rfl
end Go.Proofs.Ytbodaohbmekekaa

/- What Read read is written as just the bytes that it read. No program in sight. -/
import Derived.Test.YtjfokbkfniilhaaLi
import Derived.Test.YtjfokbkfniilhaaLk
set_option linter.unusedVariables false
set_option linter.unusedSimpArgs false
namespace Go.Proofs.Ytjfokbkfniilhaa
open Go.RowKit Go.Proofs.YtjfokbkfniilhaaW.PrintWords Go.Proofs.Ytjfokbkfniilhaa.PLa Go.Proofs.Ytjfokbkfniilhaa.PRd
theorem i_num (s : ByteArray) (er m : Int) (h : (rdNum s er m).2.2 = 0) : er = 0 ∧ s = encB (rdNum s er m).1 ++ (rdNum s er m).2.1 := ⟨(rdNum_inv s er m h).1, (rdNum_inv s er m h).2.1⟩
theorem i_text (s : ByteArray) (er lo hi : Int) (h : (rdText s er lo hi).2.2 = 0) : er = 0 ∧ s = txE (rdText s er lo hi).1 ++ (rdText s er lo hi).2.1 := ⟨(rdText_inv s er lo hi h).1, (rdText_inv s er lo hi h).2.1⟩
theorem i_stamp (s : ByteArray) (er : Int) (h : (rdStamp s er).2.2.2 = 0) : er = 0 ∧ s = (encB (rdStamp s er).1 ++ encB (rdStamp s er).2.1) ++ (rdStamp s er).2.2.1 := ⟨(rdStamp_inv s er h).1, (rdStamp_inv s er h).2.1⟩
theorem i_count (s : ByteArray) (er m : Int) (h : (rdCount s er m).2.2 = 0) : er = 0 ∧ s = encB (rdCount s er m).1 ++ (rdCount s er m).2.1 := i_num _ _ _ h
theorem i_x (s : ByteArray) (er : Int) (h : (rdX s er).2.2 = 0) : er = 0 ∧ s = encX (rdX s er).1 ++ (rdX s er).2.1 := by
  unfold rdX at h ⊢
  dsimp only at h ⊢
  obtain ⟨e1, h1⟩ := i_num _ _ _ h
  obtain ⟨e2, h2⟩ := i_num _ _ _ e1
  refine ⟨e2, ?_⟩
  unfold encX
  rw [ByteArray.append_assoc, ← h1, ← h2]
theorem i_w (s : ByteArray) (er : Int) (h : (rdW s er).2.2 = 0) : er = 0 ∧ s = encW (rdW s er).1 ++ (rdW s er).2.1 := by
  unfold rdW at h ⊢
  dsimp only at h ⊢
  obtain ⟨e0, h0⟩ := i_text _ _ _ _ h
  obtain ⟨e1, h1⟩ := rdFlag_inv _ _ e0
  obtain ⟨e2, h2⟩ := i_text _ _ _ _ e1
  refine ⟨e2, ?_⟩
  unfold encW
  simp only [ByteArray.append_assoc]
  rw [← h0, ← h1, ← h2]
theorem i_p (s : ByteArray) (er : Int) (h : (rdP s er).2.2 = 0) : er = 0 ∧ s = encP (rdP s er).1 ++ (rdP s er).2.1 := by
  unfold rdP at h ⊢
  dsimp only at h ⊢
  obtain ⟨e1, h1⟩ := i_text _ _ _ _ h
  obtain ⟨e2, h2⟩ := i_text _ _ _ _ e1
  refine ⟨e2, ?_⟩
  unfold encP
  simp only [ByteArray.append_assoc]
  rw [← h1, ← h2]
theorem i_lst {α : Type} (f : α → ByteArray) (one : ByteArray → Int → α × ByteArray × Int) (h1 : ∀ s er, (one s er).2.2 = 0 → er = 0 ∧ s = f (one s er).1 ++ (one s er).2.1) : ∀ (n : Nat) (s : ByteArray) (er : Int), (lstR one n s er).2.2 = 0 → er = 0 ∧ s = encs f (lstR one n s er).1 ++ (lstR one n s er).2.1 := by
  intro n
  induction n with
  | zero => intro s er h; exact ⟨h, by simp [lstR, encs]⟩
  | succ n ih =>
    intro s er h
    obtain ⟨e1, x1⟩ := ih _ _ h
    obtain ⟨e2, x2⟩ := h1 _ _ e1
    refine ⟨e2, ?_⟩
    simp only [lstR, encs, ByteArray.append_assoc]
    rw [← x1, ← x2]
theorem i_ask (s : ByteArray) (er : Int) (h : (rdAsk s er).2.2 = 0) : er = 0 ∧ s = encAsk (rdAsk s er).1 ++ (rdAsk s er).2.1 := by
  have l1 := lst_len rdW
  have l2 := lst_len rdX
  have c1 := fun s er => count_le s er 16 (by decide)
  unfold rdAsk at h ⊢
  dsimp only at h ⊢
  obtain ⟨e0, x0⟩ := i_lst encX rdX i_x _ _ _ h
  obtain ⟨e1, x1⟩ := i_count _ _ _ e0
  obtain ⟨e2, x2⟩ := i_lst encW rdW i_w _ _ _ e1
  obtain ⟨e3, x3⟩ := i_count _ _ _ e2
  obtain ⟨e4, x4⟩ := i_num _ _ _ e3
  obtain ⟨e5, x5⟩ := i_num _ _ _ e4
  obtain ⟨e6, x6⟩ := i_text _ _ _ _ e5
  obtain ⟨e7, x7⟩ := i_text _ _ _ _ e6
  obtain ⟨e8, x8⟩ := i_stamp _ _ e7
  obtain ⟨e9, x9⟩ := i_stamp _ _ e8
  obtain ⟨e10, x10⟩ := i_x _ _ e9
  obtain ⟨e11, x11⟩ := i_num _ _ _ e10
  refine ⟨e11, ?_⟩
  unfold encAsk
  dsimp only
  rw [l1, l2, Int.toNat_of_nonneg (c1 _ _).1, Int.toNat_of_nonneg (c1 _ _).1]
  unfold encX at x10
  simp only [ByteArray.append_assoc] at *
  rw [← x0, ← x1, ← x2, ← x3, ← x4, ← x5, ← x6, ← x7, ← x8, ← x9, ← x10, ← x11]
theorem i_rep (s : ByteArray) (er : Int) (h : (rdRep s er).2.2 = 0) : er = 0 ∧ s = encRep (rdRep s er).1 ++ (rdRep s er).2.1 := by
  have l1 := lst_len rdP
  have c1 := fun s er => count_le s er 32 (by decide)
  unfold rdRep at h ⊢
  dsimp only at h ⊢
  obtain ⟨e0, x0⟩ := i_stamp _ _ h
  obtain ⟨e1, x1⟩ := i_text _ _ _ _ e0
  obtain ⟨e2, x2⟩ := i_stamp _ _ e1
  obtain ⟨e3, x3⟩ := i_stamp _ _ e2
  obtain ⟨e4, x4⟩ := i_x _ _ e3
  obtain ⟨e5, x5⟩ := i_lst encP rdP i_p _ _ _ e4
  obtain ⟨e6, x6⟩ := i_count _ _ _ e5
  obtain ⟨e7, x7⟩ := i_text _ _ _ _ e6
  obtain ⟨e8, x8⟩ := rdFlag_inv _ _ e7
  obtain ⟨e9, x9⟩ := i_num _ _ _ e8
  obtain ⟨e10, x10⟩ := i_num _ _ _ e9
  refine ⟨e10, ?_⟩
  unfold encRep
  dsimp only
  rw [l1, Int.toNat_of_nonneg (c1 _ _).1]
  unfold encX at x4
  simp only [ByteArray.append_assoc] at *
  rw [← x0, ← x1, ← x2, ← x3, ← x4, ← x5, ← x6, ← x7, ← x8, ← x9, ← x10]
theorem i_end (s : ByteArray) (er : Int) (h : rdEnd s er = 0) : er = 0 ∧ s = ByteArray.empty := by
  unfold rdEnd at h
  split at h
  · rename_i he
    split at h
    · rename_i hs; exact ⟨he, size0 hs⟩
    · omega
  · contradiction
theorem i_parts (s : ByteArray) (h : (rdParts s).2.2 = 0) : s = encL (rdParts s).1 ++ (rdParts s).2.1 := by
  unfold rdParts at h ⊢
  dsimp only at h ⊢
  split at h
  · rename_i hd
    rw [if_pos hd]
    dsimp only at h ⊢
    obtain ⟨e0, x0⟩ := i_rep _ _ h
    obtain ⟨e1, x1⟩ := rdFlag_inv _ _ e0
    obtain ⟨e2, x2⟩ := i_num _ _ _ e1
    obtain ⟨e3, x3⟩ := i_num _ _ _ e2
    obtain ⟨e4, x4⟩ := i_num _ _ _ e3
    unfold encL
    dsimp only
    rw [if_pos hd]
    simp only [ByteArray.append_assoc]
    rw [← x0, ← x1, ← x2, ← x3, ← x4]
  · rename_i hd
    rw [if_neg hd]
    dsimp only at h ⊢
    obtain ⟨e0, x0⟩ := i_ask _ _ h
    obtain ⟨e1, x1⟩ := rdFlag_inv _ _ e0
    obtain ⟨e2, x2⟩ := i_num _ _ _ e1
    obtain ⟨e3, x3⟩ := i_num _ _ _ e2
    obtain ⟨e4, x4⟩ := i_num _ _ _ e3
    unfold encL
    dsimp only
    rw [if_neg hd]
    simp only [ByteArray.append_assoc]
    rw [← x0, ← x1, ← x2, ← x3, ← x4]
/-- What Read answers: nothing, or the letter whose bytes were read. -/
theorem read_ways (s : ByteArray) : readR s = (zLt, 2) ∨ ∃ l, readR s = (l, 0) ∧ rightR l = true ∧ encL l = s := by
  unfold readR
  by_cases h : rdEnd (rdParts s).2.1 (rdParts s).2.2 = 0
  · rw [if_pos h]
    by_cases hr : rightR (rdParts s).1 = true
    · rw [if_pos hr]
      refine .inr ⟨_, rfl, hr, ?_⟩
      obtain ⟨e1, e2⟩ := i_end _ _ h
      have := i_parts s e1
      rw [e2, ByteArray.append_empty] at this
      exact this.symm
    · rw [if_neg hr]; exact .inl rfl
  · rw [if_neg h]; exact .inl rfl
end Go.Proofs.Ytjfokbkfniilhaa

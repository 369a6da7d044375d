/- The document's sum, bit by bit, is the sum; its frames are the frames. No program in sight but what the print wrote. -/
import Derived.Test.YtapgmedfedcliaaFn
set_option linter.unusedVariables false
set_option linter.unusedSimpArgs false
namespace Go.Proofs.Ytapgmedfedcliaa
open Go.RowKit Go.Proofs.YtapgmedfedcliaaW.PrintWords PRd PFr

theorem ref_step (k : Nat) (s : ByteArray) (x : Nat) (hx : x < 4294967296) (i j : Int) (hj : 0 ≤ j) (h8 : j < 8) : dovecoteref03_Sum.l1 (k + 1) s (x : Int) i j = dovecoteref03_Sum.l1 k s ((sh x : Nat) : Int) i (j + 1) := by
  conv => lhs; unfold dovecoteref03_Sum.l1
  rw [if_pos h8]
  have e1 : Int.tmod (x : Int) 2 = ((x % 2 : Nat) : Int) := by rw [Int.tmod_eq_emod_of_nonneg (by omega)]; omega
  have e2 : (Int.tdiv (x : Int) 2) % 4294967296 = ((x / 2 : Nat) : Int) := by rw [Int.tdiv_eq_ediv_of_nonneg (by omega)]; omega
  have e3 : wrap64 (j + 1) = j + 1 := by unfold wrap64; omega
  rw [e1, e2, e3]
  by_cases h : x % 2 = 1
  · have : sh x = (x / 2) ^^^ 2197175160 := by unfold sh; rw [h]
    rw [if_pos (by omega), show (2197175160 : Int) = ((2197175160 : Nat) : Int) from rfl, xor_u32 _ _ (by omega) (by omega), this]
  · have h0 : x % 2 = 0 := by omega
    have : sh x = x / 2 := by unfold sh; rw [h0, Nat.mul_zero, Nat.xor_zero]
    rw [if_neg (by omega), this]
theorem ref_eight (k : Nat) (s : ByteArray) (x : Nat) (hx : x < 4294967296) (i : Int) (hi : 0 ≤ i) (hi2 : i < 9223372036854775807) : dovecoteref03_Sum.l1 (k + 9) s (x : Int) i 0 = dovecoteref03_Sum.l0 k s ((sh4 (sh4 x) : Nat) : Int) (i + 1) := by
  have h1 := sh_lt hx
  have h2 := sh_lt h1
  have h3 := sh_lt h2
  have h4 := sh_lt h3
  have h5 := sh_lt h4
  have h6 := sh_lt h5
  have h7 := sh_lt h6
  rw [ref_step (k + 8) s x hx i 0 (by decide) (by decide), ref_step (k + 7) s _ h1 i _ (by decide) (by decide), ref_step (k + 6) s _ h2 i _ (by decide) (by decide), ref_step (k + 5) s _ h3 i _ (by decide) (by decide), ref_step (k + 4) s _ h4 i _ (by decide) (by decide), ref_step (k + 3) s _ h5 i _ (by decide) (by decide), ref_step (k + 2) s _ h6 i _ (by decide) (by decide), ref_step (k + 1) s _ h7 i _ (by decide) (by decide)]
  conv => lhs; unfold dovecoteref03_Sum.l1
  rw [if_neg (by decide), show wrap64 (i + 1) = i + 1 by unfold wrap64; omega]
  rfl
theorem ref_byte (k : Nat) (s : ByteArray) (x : Nat) (hx : x < 4294967296) (i : Nat) (hi : i < s.size) (hs : s.size ≤ 9223372036854775807) : dovecoteref03_Sum.l0 (k + 10) s (x : Int) (i : Int) = dovecoteref03_Sum.l0 k s ((byteStep x ((natsOf s)[i]'(by rw [natsOf_length]; exact hi)) : Nat) : Int) ((i + 1 : Nat) : Int) := by
  conv => lhs; unfold dovecoteref03_Sum.l0
  have hil : i < (natsOf s).length := by rw [natsOf_length]; exact hi
  have hb := natsOf_lt s _ (List.getElem_mem hil)
  rw [if_pos (by omega), if_pos (by omega), bt_nat s i hi]
  generalize (natsOf s)[i] = b at *
  rw [show ((b : Nat) : Int) % 4294967296 = ((b : Nat) : Int) by omega, xor_u32 _ _ hx (by omega), ref_eight k s _ (xor_lt hx (by omega)) _ (by omega) (by omega), byteStep_eq]
  rfl
theorem ref_sum_from (s : ByteArray) (hs : s.size ≤ 9223372036854775807) : ∀ (n i : Nat), i + n = s.size → dovecoteref03_Sum.l0 (10 * n + 1) s ((sumS 4294967295 ((natsOf s).take i) : Nat) : Int) (i : Int) = some ((sumN s : Nat) : Int) := by
  intro n
  induction n with
  | zero =>
    intro i h
    have hi : i = s.size := by omega
    subst hi
    unfold dovecoteref03_Sum.l0
    have hl := sumS_lt (x := 4294967295) (by decide) (natsOf s) (natsOf_lt s)
    rw [if_neg (by omega), ← natsOf_length, List.take_length, show (4294967295 : Int) = ((4294967295 : Nat) : Int) from rfl, xor_u32 _ _ hl (by decide)]
    rfl
  | succ n ih =>
    intro i h
    have hi : i < s.size := by omega
    have hil : i < (natsOf s).length := by rw [natsOf_length]; exact hi
    rw [show 10 * (n + 1) + 1 = (10 * n + 1) + 10 by omega, ref_byte _ s _ (sumS_lt (by decide) _ (fun b hb => natsOf_lt s b (List.mem_of_mem_take hb))) i hi hs, ← ih (i + 1) (by omega), List.take_succ_eq_append_getElem hil, sumS_snoc]
theorem ref_sum (s : ByteArray) (hs : s.size ≤ 9223372036854775807) : dovecoteref03_Sum.f (10 * s.size + 1) s = some ((sumN s : Nat) : Int) := by
  have := ref_sum_from s hs s.size 0 (by omega)
  rw [List.take_zero] at this
  exact this
theorem ref_four (x : Nat) (hx : x < 4294967296) : dovecoteref03_four.f (x : Int) = some (four x) := by
  unfold dovecoteref03_four.f four
  have e : ∀ d : Int, 0 < d → (Int.tdiv (x : Int) d) % 4294967296 = (x : Int) / d := by
    intro d hd
    rw [Int.tdiv_eq_ediv_of_nonneg (by omega)]
    have h1 : (0 : Int) ≤ (x : Int) / d := Int.ediv_nonneg (by omega) (by omega)
    have h2 : (x : Int) / d ≤ (x : Int) := Int.ediv_le_self _ (by omega)
    omega
  rw [e 256 (by decide), e 65536 (by decide), e 16777216 (by decide)]
theorem ref_wrap (p : ByteArray) : ∃ k, dovecoteref03_Wrap.f k p = some (wrp p) := by
  refine ⟨10 * (encT p).size + 1, ?_⟩
  unfold dovecoteref03_Wrap.f wrp
  by_cases h : p.size > 16384
  · rw [if_pos (by omega), if_pos h]
  · have hs := encT_size p (by omega)
    rw [if_neg (by omega), if_neg (by omega)]
    rw [show dovecoteref02_Text.f p = some (encT p) from if_pos (by omega)]
    simp only [Option.bind_some]
    rw [if_pos (by omega), ref_sum _ (by omega)]
    simp only [Option.bind_some]
    rw [ref_four _ (sumN_lt _)]
    simp only [Option.bind_some]
    have s1 : ((⟨#[215]⟩ : ByteArray)).size = 1 := rfl
    have s2 : (four (sumN (encT p))).size = 4 := four_size _
    rw [if_pos (by rw [ByteArray.size_append]; omega)]
    rfl
theorem refwrap_calls (p : ByteArray) (w : World) : Calls Try.prog 11 #[.string p] w fun e w' => e = .returned (.tuple #[.string (wrp p).1, .int .i64 (wrp p).2]) ∧ Below w.heap.size w w' := by
  obtain ⟨k, hk⟩ := ref_wrap p
  exact dovecoteref03_Wrap.calls k p _ _ w hk
end Go.Proofs.Ytapgmedfedcliaa

/- CRC-32C as plain words: bit by bit, four bits at a time; that one byte that is another one makes another sum. No program in sight. -/
import Derived.Test.YtapgmedfedcliaaWWords
import Derived.Laws.BitsLemmas
import Derived.Lib.BitFns
set_option linter.unusedVariables false
set_option linter.unusedSimpArgs false
namespace Go.Proofs.Ytapgmedfedcliaa
open Go.RowKit Go.Proofs.YtapgmedfedcliaaW.PrintWords

/-- One bit's step. -/
def sh (x : Nat) : Nat := (x / 2) ^^^ (2197175160 * (x % 2))
def sh4 (x : Nat) : Nat := sh (sh (sh (sh x)))
/-- Four bits' step, by the table's entry. -/
def nib (x : Nat) : Nat := (x / 16) ^^^ sh4 (x % 16)
def byteStep (x b : Nat) : Nat := nib (nib (x ^^^ b))
def sumS (x : Nat) (l : List Nat) : Nat := l.foldl byteStep x
def natsOf (s : ByteArray) : List Nat := s.data.toList.map UInt8.toNat
def sumN (s : ByteArray) : Nat := sumS 4294967295 (natsOf s) ^^^ 4294967295

theorem xor_u32 (a b : Nat) (ha : a < 4294967296) (hb : b < 4294967296) : Go.bits .xor .u32 (a : Int) (b : Int) = ((a ^^^ b : Nat) : Int) := by
  simp only [Go.bits, BitVec.ofInt_natCast, BitVec.toNat_xor, BitVec.toNat_ofNat]
  rw [IntKind.wrap_u32, Nat.mod_eq_of_lt (show a < 2 ^ IntKind.u32.bits from ha), Nat.mod_eq_of_lt (show b < 2 ^ IntKind.u32.bits from hb)]
  have h := Nat.xor_lt_two_pow (x := a) (y := b) (n := 32) ha hb
  rw [Int.emod_eq_of_lt (by omega)]
  have : (2 : Nat) ^ 32 = 4294967296 := by decide
  omega
theorem xor_lt {a b : Nat} (ha : a < 4294967296) (hb : b < 4294967296) : a ^^^ b < 4294967296 := Nat.xor_lt_two_pow (n := 32) ha hb
theorem and_u32 (a i : Nat) (ha : a < 4294967296) (hi : i ≤ 32) : Go.bits .and .u32 (a : Int) (2 ^ i - 1) = ((a % 2 ^ i : Nat) : Int) := by
  rw [bits_mask .u32 32 (by decide) (fun n h0 h1 => by rw [IntKind.wrap_u32]; have : (2 : Int) ^ 32 = 4294967296 := by decide
                                                       omega) i hi _ (by omega) (by have : (2 : Int) ^ 32 = 4294967296 := by decide
                                                                                    omega)]
  simp
theorem and1_u32 (a : Nat) (ha : a < 4294967296) : Go.bits .and .u32 (a : Int) 1 = ((a % 2 : Nat) : Int) := by simpa using and_u32 a 1 ha (by decide)
theorem and15_u32 (a : Nat) (ha : a < 4294967296) : Go.bits .and .u32 (a : Int) 15 = ((a % 16 : Nat) : Int) := by
  have := and_u32 a 4 ha (by decide)
  rw [show ((2 : Int) ^ 4 - 1) = 15 by decide, show (2 ^ 4 : Nat) = 16 by decide] at this
  exact this
theorem sh_lt {x : Nat} (h : x < 4294967296) : sh x < 4294967296 := xor_lt (by omega) (by omega)
theorem sh4_lt {x : Nat} (h : x < 4294967296) : sh4 x < 4294967296 := sh_lt (sh_lt (sh_lt (sh_lt h)))
theorem nib_lt {x : Nat} (h : x < 4294967296) : nib x < 4294967296 := xor_lt (by omega) (sh4_lt (by omega))
theorem byteStep_lt {x b : Nat} (h : x < 4294967296) (hb : b < 4294967296) : byteStep x b < 4294967296 := nib_lt (nib_lt (xor_lt h hb))
theorem natsOf_lt (s : ByteArray) : ∀ b ∈ natsOf s, b < 256 := by
  intro b hb
  obtain ⟨u, _, rfl⟩ := List.mem_map.1 hb
  exact u.toNat_lt
theorem sumS_lt {x : Nat} (h : x < 4294967296) (l : List Nat) (hl : ∀ b ∈ l, b < 256) : sumS x l < 4294967296 := by
  induction l generalizing x with
  | nil => exact h
  | cons b l ih =>
    have := hl b (List.mem_cons_self ..)
    exact ih (byteStep_lt h (by omega)) fun c hc => hl c (List.mem_cons_of_mem _ hc)
theorem sumN_lt (s : ByteArray) : sumN s < 4294967296 := xor_lt (sumS_lt (by decide) _ (natsOf_lt s)) (by decide)
theorem sumS_snoc (x : Nat) (l : List Nat) (b : Nat) : sumS x (l ++ [b]) = byteStep (sumS x l) b := by simp [sumS]
theorem natsOf_length (s : ByteArray) : (natsOf s).length = s.size := by unfold natsOf; rw [List.length_map, Array.length_toList]; rfl
theorem bt_nat (s : ByteArray) (i : Nat) (h : i < s.size) : bt s (i : Int) = ((natsOf s)[i]'(by rw [natsOf_length]; exact h) : Int) := by
  unfold bt natsOf
  rw [List.getElem_map]
  have h' : i < s.data.toList.length := by rw [Array.length_toList]; exact h
  simp [List.getD_eq_getElem?_getD, h]
  rfl

/-! ### The table -/
def shn : Nat → Nat → Nat
  | 0, x => x
  | j + 1, x => sh (shn j x)
theorem shn_lt (j : Nat) {x : Nat} (h : x < 4294967296) : shn j x < 4294967296 := by
  induction j with
  | zero => exact h
  | succ j ih => exact sh_lt ih
theorem sh_val (x : Nat) (h : x < 4294967296) : Go.bits .xor .u32 ((x : Int) / 2) ((2197175160 * Go.bits .and .u32 (x : Int) 1) % 4294967296) = ((sh x : Nat) : Int) := by
  rw [and1_u32 x h]
  have h1 : (2197175160 * ((x % 2 : Nat) : Int)) % 4294967296 = ((2197175160 * (x % 2) : Nat) : Int) := by omega
  rw [h1, show ((x : Int) / 2) = ((x / 2 : Nat) : Int) by omega, xor_u32 _ _ (by omega) (by omega)]
  rfl
/-- The table's cells, the first k of them filled. -/
def tabC (k : Nat) : Array Value := ((List.range 16).map fun j => Value.int .u32 (((if j < k then sh4 j else 0 : Nat)) : Int)).toArray
theorem tabC_size (k : Nat) : (tabC k).size = 16 := by simp [tabC]
theorem tabC_get (k j : Nat) (h : j < 16) : (tabC k)[j]? = some (.int .u32 (((if j < k then sh4 j else 0 : Nat)) : Int)) := by simp [tabC, h]
theorem tabC_zero : tabC 0 = #[.int .u32 0, .int .u32 0, .int .u32 0, .int .u32 0, .int .u32 0, .int .u32 0, .int .u32 0, .int .u32 0, .int .u32 0, .int .u32 0, .int .u32 0, .int .u32 0, .int .u32 0, .int .u32 0, .int .u32 0, .int .u32 0] := by rfl
theorem tabC_set (k : Nat) (h : k < 16) : (tabC k).setIfInBounds k (.int .u32 ((shn 4 k : Nat) : Int)) = tabC (k + 1) := by
  apply Array.ext_getElem?
  intro j
  rw [Array.getElem?_setIfInBounds]
  by_cases hj : j < 16
  · rw [tabC_get _ _ hj, tabC_get _ _ hj]
    by_cases e : k = j
    · subst e
      rw [if_pos rfl, tabC_size, if_pos h, if_pos (by omega)]
      rfl
    · rw [if_neg e]
      by_cases hk : j < k
      · rw [if_pos hk, if_pos (by omega)]
      · rw [if_neg hk, if_neg (by omega)]
  · rw [if_neg (by omega), Array.getElem?_eq_none (by rw [tabC_size]; omega), Array.getElem?_eq_none (by rw [tabC_size]; omega)]
theorem nib_val (x y : Nat) (h : x < 4294967296) (hy : y = sh4 (x % 16)) : Go.bits .xor .u32 ((x : Int) / 16) (y : Int) = ((nib x : Nat) : Int) := by
  subst hy
  rw [show ((x : Int) / 16) = ((x / 16 : Nat) : Int) by omega, xor_u32 _ _ (by omega) (sh4_lt (by omega))]
  rfl

/-! ### Linear -/
theorem sh_xor (a b : Nat) : sh (a ^^^ b) = sh a ^^^ sh b := by
  unfold sh
  have h1 : (a ^^^ b) / 2 = a / 2 ^^^ b / 2 := Nat.xor_div_two
  have h2 : (a ^^^ b) % 2 = (a % 2) ^^^ (b % 2) := by
    have := Nat.xor_mod_two_pow (a := a) (b := b) (n := 1)
    simpa using this
  rw [h1, h2]
  have h3 : 2197175160 * (a % 2 ^^^ b % 2) = 2197175160 * (a % 2) ^^^ 2197175160 * (b % 2) := by
    rcases Nat.mod_two_eq_zero_or_one a with ha | ha <;> rcases Nat.mod_two_eq_zero_or_one b with hb | hb <;> rw [ha, hb] <;> decide
  rw [h3]
  simp only [Nat.xor_assoc]
  congr 1
  rw [← Nat.xor_assoc, Nat.xor_comm (b / 2), Nat.xor_assoc]
theorem sh4_xor (a b : Nat) : sh4 (a ^^^ b) = sh4 a ^^^ sh4 b := by simp only [sh4, sh_xor]
theorem sh_even (a : Nat) : sh (2 * a) = a := by
  unfold sh
  rw [Nat.mul_div_cancel_left _ (by decide), Nat.mul_mod_right, Nat.mul_zero, Nat.xor_zero]
theorem sh4_16 (a : Nat) : sh4 (16 * a) = a := by
  unfold sh4
  rw [show 16 * a = 2 * (2 * (2 * (2 * a))) by omega, sh_even, sh_even, sh_even, sh_even]
theorem split16 (x : Nat) : x = (16 * (x / 16)) ^^^ (x % 16) := by
  have h := Nat.two_pow_add_eq_or_of_lt (i := 4) (b := x % 16) (by have := Nat.mod_lt x (show 16 > 0 by decide); omega) (x / 16)
  rw [show (2 : Nat) ^ 4 = 16 by decide] at h
  apply Nat.eq_of_testBit_eq
  intro i
  rw [Nat.testBit_xor]
  have e : x = 16 * (x / 16) ||| x % 16 := by rw [← h]; omega
  conv => lhs; rw [e]
  rw [Nat.testBit_or]
  by_cases hi : i < 4
  · have : (16 * (x / 16)).testBit i = false := by
      rw [show (16 : Nat) = 2 ^ 4 by decide, Nat.testBit_two_pow_mul]
      simp [show ¬ i ≥ 4 by omega]
    rw [this]; simp
  · have : (x % 16).testBit i = false := Nat.testBit_lt_two_pow (Nat.lt_of_lt_of_le (Nat.mod_lt x (by decide)) (by
      rw [show (16 : Nat) = 2 ^ 4 by decide]; exact Nat.pow_le_pow_right (by decide) (by omega)))
    rw [this]; simp
/-- Four bits at a time is bit by bit. -/
theorem nib_eq (x : Nat) : nib x = sh4 x := by
  unfold nib
  conv => rhs; rw [split16 x, sh4_xor, sh4_16]
theorem byteStep_eq (x b : Nat) : byteStep x b = sh4 (sh4 (x ^^^ b)) := by rw [byteStep, nib_eq, nib_eq]

/-! ### One to one -/
theorem tab_top : ∀ i, i < 16 → ∀ j, j < 16 → sh4 i / 268435456 = sh4 j / 268435456 → i = j := by decide +kernel
theorem xor_cancel_right {a b c : Nat} (h : a ^^^ c = b ^^^ c) : a = b := by
  have := congrArg (· ^^^ c) h
  simpa [Nat.xor_assoc] using this
theorem nib_inj {x y : Nat} (hx : x < 4294967296) (hy : y < 4294967296) (h : nib x = nib y) : x = y := by
  unfold nib at h
  have top : ∀ a t : Nat, a < 268435456 → (a ^^^ t) / 268435456 = t / 268435456 := by
    intro a t ha
    have := Nat.shiftRight_xor_distrib (a := a) (b := t) (i := 28)
    simp only [Nat.shiftRight_eq_div_pow] at this
    rw [show (2 : Nat) ^ 28 = 268435456 by decide] at this
    rw [this, Nat.div_eq_of_lt ha, Nat.zero_xor]
  have h1 := congrArg (· / 268435456) h
  simp only [top _ _ (show x / 16 < 268435456 by omega), top _ _ (show y / 16 < 268435456 by omega)] at h1
  have h2 := tab_top _ (Nat.mod_lt x (by decide)) _ (Nat.mod_lt y (by decide)) h1
  rw [h2] at h
  have h3 := xor_cancel_right h
  omega
theorem byteStep_inj {x y b c : Nat} (hx : x < 4294967296) (hy : y < 4294967296) (hb : b < 256) (hc : c < 256) (h : byteStep x b = byteStep y c) : x ^^^ b = y ^^^ c :=
  nib_inj (xor_lt hx (by omega)) (xor_lt hy (by omega)) (nib_inj (nib_lt (xor_lt hx (by omega))) (nib_lt (xor_lt hy (by omega))) h)
theorem sumS_inj {x y : Nat} (hx : x < 4294967296) (hy : y < 4294967296) (l : List Nat) (hl : ∀ b ∈ l, b < 256) (h : sumS x l = sumS y l) : x = y := by
  induction l generalizing x y with
  | nil => exact h
  | cons b l ih =>
    have hb := hl b (List.mem_cons_self ..)
    have := ih (byteStep_lt hx (by omega)) (byteStep_lt hy (by omega)) (fun c hc => hl c (List.mem_cons_of_mem _ hc)) h
    exact xor_cancel_right (byteStep_inj hx hy hb hb this)
/-- Texts that differ in one place have other sums. -/
theorem sumS_one (l r : List Nat) (b c x : Nat) (hx : x < 4294967296) (hl : ∀ b ∈ l, b < 256) (hr : ∀ b ∈ r, b < 256) (hb : b < 256) (hc : c < 256) (h : sumS x (l ++ b :: r) = sumS x (l ++ c :: r)) : b = c := by
  have e : ∀ d, sumS x (l ++ d :: r) = sumS (byteStep (sumS x l) d) r := by intro d; simp [sumS]
  rw [e, e] at h
  have hs := sumS_lt hx l hl
  have h2 := sumS_inj (byteStep_lt hs (by omega)) (byteStep_lt hs (by omega)) r hr h
  have h3 := byteStep_inj hs hs hb hc h2
  rw [Nat.xor_comm, Nat.xor_comm _ c] at h3
  exact xor_cancel_right h3
theorem sumN_one (s t : ByteArray) (l r : List Nat) (b c : Nat) (hs : natsOf s = l ++ b :: r) (ht : natsOf t = l ++ c :: r) (h : sumN s = sumN t) : b = c := by
  unfold sumN at h
  have hS := natsOf_lt s
  have hT := natsOf_lt t
  rw [hs] at h hS
  rw [ht] at h hT
  exact sumS_one l r b c _ (by decide) (fun z hz => hS z (by simp [hz])) (fun z hz => hS z (by simp [hz])) (hS b (by simp)) (hT c (by simp)) (xor_cancel_right h)
end Go.Proofs.Ytapgmedfedcliaa

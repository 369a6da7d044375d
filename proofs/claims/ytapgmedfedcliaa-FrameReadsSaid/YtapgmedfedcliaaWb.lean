/- Plain words on bytes: numbers in the fewest bytes, texts as lists of numbers. No program in sight. -/
import Derived.Test.YtapgmedfedcliaaWWords
import Derived.Lib.BitFns
set_option linter.unusedVariables false
set_option linter.unusedSimpArgs false
namespace Go.Proofs.Ytapgmedfedcliaa
open Go.RowKit Go.Proofs.YtapgmedfedcliaaW.PrintWords

def Bytes (xs : List Int) : Prop := ∀ x ∈ xs, 0 ≤ x ∧ x ≤ 255
theorem Bytes.append {xs ys : List Int} (h : Bytes xs) (k : Bytes ys) : Bytes (xs ++ ys) := fun x hx => (List.mem_append.1 hx).elim (h x) (k x)
theorem bytesOf_append (a b : ByteArray) : bytesOf (a ++ b) = bytesOf a ++ bytesOf b := by
  unfold bytesOf
  rw [ByteArray.data_append]; simp
theorem bytesOf_nums (xs : List Int) (h : Bytes xs) : bytesOf (strOfNums xs) = xs := by
  unfold bytesOf
  rw [strOfNums_data, List.map_map]
  conv => rhs; rw [← List.map_id xs]
  apply List.map_congr_left
  intro x hx
  have := h x hx
  simp
  omega
theorem size_nums (xs : List Int) : (strOfNums xs).size = xs.length := strOfNums_size xs
theorem map_inj {α β : Type} (f : α → β) (hf : ∀ a b, f a = f b → a = b) : ∀ l l' : List α, l.map f = l'.map f → l = l' := by
  intro l
  induction l with
  | nil => intro l' h; cases l' with
    | nil => rfl
    | cons => simp at h
  | cons a l ih => intro l' h; cases l' with
    | nil => simp at h
    | cons b l' =>
      simp only [List.map_cons, List.cons.injEq] at h
      rw [hf a b h.1, ih l' h.2]
theorem bytes_ext {a b : ByteArray} (h : bytesOf a = bytesOf b) : a = b := by
  have h2 : a.data.toList = b.data.toList := by
    unfold bytesOf at h
    refine map_inj _ ?_ _ _ h
    intro x y hxy
    have : x.toNat = y.toNat := by omega
    exact UInt8.toNat_inj.1 this
  have h3 : a.data = b.data := Array.toList_inj.1 h2
  cases a; cases b; simp_all
theorem bytesOf_bytes (s : ByteArray) : Bytes (bytesOf s) := by
  intro x hx
  unfold bytesOf at hx
  obtain ⟨b, _, rfl⟩ := List.mem_map.1 hx
  have := b.toNat_lt
  omega
theorem nums_bytesOf (s : ByteArray) : strOfNums (bytesOf s) = s := bytes_ext (bytesOf_nums _ (bytesOf_bytes s))
theorem strOfNums_append (xs ys : List Int) : strOfNums (xs ++ ys) = strOfNums xs ++ strOfNums ys := by
  cases h : strOfNums (xs ++ ys) with
  | mk d =>
    have : d = (strOfNums xs ++ strOfNums ys).data := by
      rw [ByteArray.data_append]
      have h2 : d = (strOfNums (xs ++ ys)).data := by rw [h]
      rw [h2]
      simp [strOfNums]
    rw [this]

/-! ### How many bytes a number wants -/
theorem bitLenAux_lt (f : Nat) : ∀ (x m : Nat), m ≤ f → x < 2 ^ m → Lib.bitLenAux f x ≤ m := by
  induction f with
  | zero => intro x m hm h; simp [Lib.bitLenAux]
  | succ f ih =>
    intro x m hm h
    simp only [Lib.bitLenAux]
    split
    · omega
    · rename_i hx
      obtain ⟨m, rfl⟩ : ∃ q, m = q + 1 := ⟨m - 1, by
        rcases m with _ | m
        · simp at h; omega
        · rfl⟩
      have := ih (x / 2) m (by omega) (by rw [Nat.pow_succ] at h; omega)
      omega
theorem bitLenAux_ge (f : Nat) : ∀ (x m : Nat), x < 2 ^ f → 2 ^ m ≤ x → m + 1 ≤ Lib.bitLenAux f x := by
  induction f with
  | zero => intro x m hf h; have := Nat.two_pow_pos m; simp at hf; omega
  | succ f ih =>
    intro x m hf h
    simp only [Lib.bitLenAux]
    have h0 := Nat.two_pow_pos m
    rw [if_neg (by omega)]
    rcases m with _ | m
    · omega
    · have := ih (x / 2) m (by rw [Nat.pow_succ] at hf; omega) (by rw [Nat.pow_succ] at h; omega)
      omega
theorem bitLen_le {x m : Nat} (hm : m ≤ 64) (h : x < 2 ^ m) : Lib.bitLen x ≤ m := bitLenAux_lt 64 x m hm h
theorem bitLen_ge {x m : Nat} (h64 : x < 2 ^ 64) (h : 2 ^ m ≤ x) : m + 1 ≤ Lib.bitLen x := bitLenAux_ge 64 x m h64 h
/-- How many bytes. -/
def byteLen (x : Nat) : Nat := (Lib.bitLen x + 7) / 8
theorem pow256 (k : Nat) : 256 ^ k = 2 ^ (8 * k) := by rw [show 256 = 2 ^ 8 from rfl, ← Nat.pow_mul]
theorem byteLen_le {x k : Nat} (hk : k ≤ 8) (h : x < 256 ^ k) : byteLen x ≤ k := by
  rw [pow256] at h
  have := bitLen_le (by omega) h
  unfold byteLen; omega
theorem byteLen_ge {x k : Nat} (h64 : x < 2 ^ 64) (h : 256 ^ k ≤ x) : k + 1 ≤ byteLen x := by
  rw [pow256] at h
  have := bitLen_ge h64 h
  unfold byteLen; omega
theorem byteLen_range {x : Nat} (h64 : x < 2 ^ 64) (h : 1 ≤ x) : 1 ≤ byteLen x ∧ byteLen x ≤ 8 :=
  ⟨byteLen_ge (k := 0) h64 (by simpa using h), byteLen_le (Nat.le_refl _) h64⟩
theorem byteLen_eq {x k : Nat} (hk : k + 1 ≤ 8) (h1 : 256 ^ k ≤ x) (h2 : x < 256 ^ (k + 1)) : byteLen x = k + 1 := by
  have h64 : x < 2 ^ 64 := by
    have : 256 ^ (k + 1) ≤ 256 ^ 8 := Nat.pow_le_pow_right (by omega) hk
    have e : (256 : Nat) ^ 8 = 2 ^ 64 := by decide
    omega
  have := byteLen_ge h64 h1
  have := byteLen_le hk h2
  omega
theorem byteLen_lt {x : Nat} (h64 : x < 2 ^ 64) (h : 1 ≤ x) : x < 256 ^ byteLen x ∧ 256 ^ (byteLen x - 1) ≤ x := by
  obtain ⟨h1, h2⟩ := byteLen_range h64 h
  constructor
  · rcases Nat.lt_or_ge x (256 ^ byteLen x) with h | h
    · exact h
    · have := byteLen_ge h64 h; omega
  · rcases Nat.lt_or_ge x (256 ^ (byteLen x - 1)) with h | h
    · have := byteLen_le (by omega) h; omega
    · exact h

/-- The first c of x's k bytes, the greatest first. -/
def beTo (k x c : Nat) : List Int := (List.range c).map fun j => ((x / 256 ^ (k - 1 - j) % 256 : Nat) : Int)
theorem beTo_length (k x c : Nat) : (beTo k x c).length = c := by simp [beTo]
theorem beTo_succ (k x c : Nat) : beTo k x (c + 1) = beTo k x c ++ [((x / 256 ^ (k - 1 - c) % 256 : Nat) : Int)] := by simp [beTo, List.range_succ]
theorem beTo_bytes (k x c : Nat) : Bytes (beTo k x c) := by
  intro y hy
  unfold beTo at hy
  obtain ⟨j, _, rfl⟩ := List.mem_map.1 hy
  omega
/-- A number's bytes. -/
def encN (n : Int) : List Int := if n < 248 then [n] else (247 + (byteLen n.toNat : Int)) :: beTo (byteLen n.toNat) n.toNat (byteLen n.toNat)
theorem encN_bytes {n : Int} (h0 : 0 ≤ n) (h1 : n ≤ 18446744073709551615) : Bytes (encN n) := by
  unfold encN
  split
  · intro x hx; simp at hx; omega
  · have := byteLen_range (x := n.toNat) (by omega) (by omega)
    intro x hx
    rcases List.mem_cons.1 hx with rfl | hx
    · omega
    · exact beTo_bytes _ _ _ x hx
theorem encN_length {n : Int} (h1 : n ≤ 18446744073709551615) : 1 ≤ (encN n).length ∧ (encN n).length ≤ 9 := by
  unfold encN
  split
  · simp
  · have := byteLen_range (x := n.toNat) (by omega) (by omega)
    simp [beTo_length]; omega
/-- The same as a text. -/
def encB (n : Int) : ByteArray := strOfNums (encN n)
theorem encB_size {n : Int} (h1 : n ≤ 18446744073709551615) : 1 ≤ (encB n).size ∧ (encB n).size ≤ 9 := by
  unfold encB
  rw [size_nums]
  exact encN_length h1
end Go.Proofs.Ytapgmedfedcliaa

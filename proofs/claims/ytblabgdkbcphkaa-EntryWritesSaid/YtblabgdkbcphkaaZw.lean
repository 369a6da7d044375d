/- Plain words on bytes: numbers in the fewest bytes, texts as lists of numbers. No program in sight. -/
import Derived.Test.YtblabgdkbcphkaaWWords
import Derived.Lib.BitFns
import Derived.Test.YtblabgdkbcphkaaProg
import Derived.Test.YtblabgdkbcphkaaWKept
import Derived.Test.YtblabgdkbcphkaaWMore
import Derived.WalkKit
import Derived.Lib.Hide
import Derived.Test.YtblabgdkbcphkaaShelf
import Derived.Deep.RegionLaw
import Derived.Deep.AppendLies
import Derived.Deep.LoopGhost
import Derived.WalkLawsBesides
import Derived.Lib.ConvBytes
set_option linter.unusedVariables false
set_option linter.unusedSimpArgs false
namespace Go.Proofs.Ytblabgdkbcphkaa
open Go.RowKit Go.Proofs.YtblabgdkbcphkaaW.PrintWords

def Bytes (xs : List Int) : Prop := ∀ x ∈ xs, 0 ≤ x ∧ x ≤ 255
theorem Bytes.append {xs ys : List Int} (h : Bytes xs) (k : Bytes ys) : Bytes (xs ++ ys) := fun x hx => (List.mem_append.1 hx).elim (h x) (k x)
theorem bytesOf_append (a b : ByteArray) : bytesOf (a ++ b) = bytesOf a ++ bytesOf b := by
  unfold bytesOf
  rw [ByteArray.data_append]; simp
theorem bytesOf_nums (xs : List Int) (h : Bytes xs) : bytesOf (strOfNums xs) = xs := by
  unfold bytesOf
  rw [strOfNums_data, List.map_map]
  conv => rhs; rw [← List.map_id xs]
  apply List.map_congr_left
  intro x hx
  have := h x hx
  simp
  omega
theorem size_nums (xs : List Int) : (strOfNums xs).size = xs.length := strOfNums_size xs
theorem map_inj {α β : Type} (f : α → β) (hf : ∀ a b, f a = f b → a = b) : ∀ l l' : List α, l.map f = l'.map f → l = l' := by
  intro l
  induction l with
  | nil => intro l' h; cases l' with
    | nil => rfl
    | cons => simp at h
  | cons a l ih => intro l' h; cases l' with
    | nil => simp at h
    | cons b l' =>
      simp only [List.map_cons, List.cons.injEq] at h
      rw [hf a b h.1, ih l' h.2]
theorem bytes_ext {a b : ByteArray} (h : bytesOf a = bytesOf b) : a = b := by
  have h2 : a.data.toList = b.data.toList := by
    unfold bytesOf at h
    refine map_inj _ ?_ _ _ h
    intro x y hxy
    have : x.toNat = y.toNat := by omega
    exact UInt8.toNat_inj.1 this
  have h3 : a.data = b.data := Array.toList_inj.1 h2
  cases a; cases b; simp_all
theorem bytesOf_bytes (s : ByteArray) : Bytes (bytesOf s) := by
  intro x hx
  unfold bytesOf at hx
  obtain ⟨b, _, rfl⟩ := List.mem_map.1 hx
  have := b.toNat_lt
  omega
theorem nums_bytesOf (s : ByteArray) : strOfNums (bytesOf s) = s := bytes_ext (bytesOf_nums _ (bytesOf_bytes s))
theorem strOfNums_append (xs ys : List Int) : strOfNums (xs ++ ys) = strOfNums xs ++ strOfNums ys := by
  cases h : strOfNums (xs ++ ys) with
  | mk d =>
    have : d = (strOfNums xs ++ strOfNums ys).data := by
      rw [ByteArray.data_append]
      have h2 : d = (strOfNums (xs ++ ys)).data := by rw [h]
      rw [h2]
      simp [strOfNums]
    rw [this]

/-! ### How many bytes a number wants -/
theorem bitLenAux_lt (f : Nat) : ∀ (x m : Nat), m ≤ f → x < 2 ^ m → Lib.bitLenAux f x ≤ m := by
  induction f with
  | zero => intro x m hm h; simp [Lib.bitLenAux]
  | succ f ih =>
    intro x m hm h
    simp only [Lib.bitLenAux]
    split
    · omega
    · rename_i hx
      obtain ⟨m, rfl⟩ : ∃ q, m = q + 1 := ⟨m - 1, by
        rcases m with _ | m
        · simp at h; omega
        · rfl⟩
      have := ih (x / 2) m (by omega) (by rw [Nat.pow_succ] at h; omega)
      omega
theorem bitLenAux_ge (f : Nat) : ∀ (x m : Nat), x < 2 ^ f → 2 ^ m ≤ x → m + 1 ≤ Lib.bitLenAux f x := by
  induction f with
  | zero => intro x m hf h; have := Nat.two_pow_pos m; simp at hf; omega
  | succ f ih =>
    intro x m hf h
    simp only [Lib.bitLenAux]
    have h0 := Nat.two_pow_pos m
    rw [if_neg (by omega)]
    rcases m with _ | m
    · omega
    · have := ih (x / 2) m (by rw [Nat.pow_succ] at hf; omega) (by rw [Nat.pow_succ] at h; omega)
      omega
theorem bitLen_le {x m : Nat} (hm : m ≤ 64) (h : x < 2 ^ m) : Lib.bitLen x ≤ m := bitLenAux_lt 64 x m hm h
theorem bitLen_ge {x m : Nat} (h64 : x < 2 ^ 64) (h : 2 ^ m ≤ x) : m + 1 ≤ Lib.bitLen x := bitLenAux_ge 64 x m h64 h
/-- How many bytes. -/
def byteLen (x : Nat) : Nat := (Lib.bitLen x + 7) / 8
theorem pow256 (k : Nat) : 256 ^ k = 2 ^ (8 * k) := by rw [show 256 = 2 ^ 8 from rfl, ← Nat.pow_mul]
theorem byteLen_le {x k : Nat} (hk : k ≤ 8) (h : x < 256 ^ k) : byteLen x ≤ k := by
  rw [pow256] at h
  have := bitLen_le (by omega) h
  unfold byteLen; omega
theorem byteLen_ge {x k : Nat} (h64 : x < 2 ^ 64) (h : 256 ^ k ≤ x) : k + 1 ≤ byteLen x := by
  rw [pow256] at h
  have := bitLen_ge h64 h
  unfold byteLen; omega
theorem byteLen_range {x : Nat} (h64 : x < 2 ^ 64) (h : 1 ≤ x) : 1 ≤ byteLen x ∧ byteLen x ≤ 8 :=
  ⟨byteLen_ge (k := 0) h64 (by simpa using h), byteLen_le (Nat.le_refl _) h64⟩
theorem byteLen_eq {x k : Nat} (hk : k + 1 ≤ 8) (h1 : 256 ^ k ≤ x) (h2 : x < 256 ^ (k + 1)) : byteLen x = k + 1 := by
  have h64 : x < 2 ^ 64 := by
    have : 256 ^ (k + 1) ≤ 256 ^ 8 := Nat.pow_le_pow_right (by omega) hk
    have e : (256 : Nat) ^ 8 = 2 ^ 64 := by decide
    omega
  have := byteLen_ge h64 h1
  have := byteLen_le hk h2
  omega
theorem byteLen_lt {x : Nat} (h64 : x < 2 ^ 64) (h : 1 ≤ x) : x < 256 ^ byteLen x ∧ 256 ^ (byteLen x - 1) ≤ x := by
  obtain ⟨h1, h2⟩ := byteLen_range h64 h
  constructor
  · rcases Nat.lt_or_ge x (256 ^ byteLen x) with h | h
    · exact h
    · have := byteLen_ge h64 h; omega
  · rcases Nat.lt_or_ge x (256 ^ (byteLen x - 1)) with h | h
    · have := byteLen_le (by omega) h; omega
    · exact h

/-- The first c of x's k bytes, the greatest first. -/
def beTo (k x c : Nat) : List Int := (List.range c).map fun j => ((x / 256 ^ (k - 1 - j) % 256 : Nat) : Int)
theorem beTo_length (k x c : Nat) : (beTo k x c).length = c := by simp [beTo]
theorem beTo_succ (k x c : Nat) : beTo k x (c + 1) = beTo k x c ++ [((x / 256 ^ (k - 1 - c) % 256 : Nat) : Int)] := by simp [beTo, List.range_succ]
theorem beTo_bytes (k x c : Nat) : Bytes (beTo k x c) := by
  intro y hy
  unfold beTo at hy
  obtain ⟨j, _, rfl⟩ := List.mem_map.1 hy
  omega
/-- A number's bytes. -/
def encN (n : Int) : List Int := if n < 248 then [n] else (247 + (byteLen n.toNat : Int)) :: beTo (byteLen n.toNat) n.toNat (byteLen n.toNat)
theorem encN_bytes {n : Int} (h0 : 0 ≤ n) (h1 : n ≤ 18446744073709551615) : Bytes (encN n) := by
  unfold encN
  split
  · intro x hx; simp at hx; omega
  · have := byteLen_range (x := n.toNat) (by omega) (by omega)
    intro x hx
    rcases List.mem_cons.1 hx with rfl | hx
    · omega
    · exact beTo_bytes _ _ _ x hx
theorem encN_length {n : Int} (h1 : n ≤ 18446744073709551615) : 1 ≤ (encN n).length ∧ (encN n).length ≤ 9 := by
  unfold encN
  split
  · simp
  · have := byteLen_range (x := n.toNat) (by omega) (by omega)
    simp [beTo_length]; omega
/-- The same as a text. -/
def encB (n : Int) : ByteArray := strOfNums (encN n)
theorem encB_size {n : Int} (h1 : n ≤ 18446744073709551615) : 1 ≤ (encB n).size ∧ (encB n).size ≤ 9 := by
  unfold encB
  rw [size_nums]
  exact encN_length h1
end Go.Proofs.Ytblabgdkbcphkaa

/- A pack.Writer as a state: the text that has been written; and what a call that writes keeps. Conditions: those that each theorem names. -/
set_option linter.unusedVariables false
set_option linter.unusedSimpArgs false
namespace Go.Proofs.Ytblabgdkbcphkaa
open Go.RowKit Go.Proofs.YtblabgdkbcphkaaW.PrintWords

theorem below_alloc' {w0 w : World} (h : Below w0.heap.size w0 w) (o : Obj) : Below w0.heap.size w0 (w.alloc o) := below_alloc h o
/-- The Writer at block g: s has been written. -/
def IsS49 (w0 W : World) (g : Nat) (s : ByteArray) : Prop :=
  ∃ v, W.heap[g]? = some (.cells #[v] 49 (0, 0)) ∧ w0.heap.size ≤ g ∧ W.ownsRow w0.heap.size 5 1 v s.size (nums .u8 (bytesOf s))
/-- The block of the row that the one-field struct at block g leads to. -/
def rowOf (W : World) (g : Nat) : Option Nat :=
  match W.heap[g]? with
  | some (.cells cs _ _) => (cs[0]?).bind Value.ownBlock
  | _ => none
theorem rowOf_eq {W W2 : World} {g : Nat} (h : W2.heap[g]? = W.heap[g]?) : rowOf W2 g = rowOf W g := by unfold rowOf; rw [h]
theorem rowOf_at {W : World} {g : Nat} {v : Value} {t : TypeId} {fr : Nat × Nat} (h : W.heap[g]? = some (.cells #[v] t fr)) : rowOf W g = v.ownBlock := by unfold rowOf; rw [h]; rfl
/-- All but block g, the row that it leads to, and what is new since. -/
def KeepW (w W : World) (g : Nat) : Prop := g < w.heap.size → w.heap.size ≤ W.heap.size ∧ (∀ i, i < w.heap.size → i ≠ g → some i ≠ rowOf w g → W.heap[i]? = w.heap[i]?) ∧ (rowOf W g = rowOf w g ∨ ∀ b, rowOf W g = some b → w.heap.size ≤ b)
theorem KeepW.refl (w : World) (g : Nat) : KeepW w w g := fun _ => ⟨Nat.le_refl _, fun _ _ _ _ => rfl, .inl rfl⟩
theorem KeepW.trans {w w1 w2 : World} {g : Nat} (h : KeepW w w1 g) (k : KeepW w1 w2 g) : KeepW w w2 g := by
  intro hg
  obtain ⟨h1, h2, h3⟩ := h hg
  obtain ⟨k1, k2, k3⟩ := k (Nat.lt_of_lt_of_le hg h1)
  refine ⟨Nat.le_trans h1 k1, fun i hi hne hr => ?_, ?_⟩
  · rw [k2 i (Nat.lt_of_lt_of_le hi h1) hne ?_, h2 i hi hne hr]
    rcases h3 with h3 | h3
    · rw [h3]; exact hr
    · intro e; have := h3 i e.symm; omega
  · rcases k3 with k3 | k3
    · rw [k3]
      exact h3
    · exact .inr fun b hb => Nat.le_trans h1 (k3 b hb)
theorem KeepW.below {w w1 w2 : World} {g : Nat} (h : KeepW w w1 g) (k : Below w1.heap.size w1 w2) : KeepW w w2 g := by
  refine h.trans fun hg => ⟨k.size, fun i hi _ _ => k.block i hi, .inl (rowOf_eq (k.block g hg))⟩
theorem KeepW.alloc {w w1 : World} {g : Nat} (h : KeepW w w1 g) (o : Obj) : KeepW w (w1.alloc o) g := h.below (below_alloc (Below.refl _ _) o)
theorem KeepW.drew {w w1 : World} {g : Nat} (h : KeepW w w1 g) : KeepW w w1.drew g := h
theorem KeepW.drewN {w w1 : World} {g : Nat} (h : KeepW w w1 g) (m : Nat) : KeepW w (w1.drewN m) g := h
/-- What is no block of the Writer's is as it was. -/
theorem KeepW.block {w W : World} {w0 : World} {g : Nat} {s : ByteArray} (h : KeepW w W g) (hI : IsS49 w0 w g s) (i : Nat) (hne : i ≠ g) {cs : Array Value} {t : TypeId} {fr : Nat × Nat} (hb : w.heap[i]? = some (.cells cs t fr)) (ht : t ≠ 5) : W.heap[i]? = w.heap[i]? := by
  obtain ⟨v, h1, h2, h3⟩ := hI
  have hlt : ∀ j, (∃ o, w.heap[j]? = some o) → j < w.heap.size := fun j ⟨o, ho⟩ => (Array.getElem?_eq_some_iff.1 ho).1
  refine (h (hlt g ⟨_, h1⟩)).2.1 i (hlt i ⟨_, hb⟩) hne ?_
  rw [rowOf_at h1]
  intro e
  rcases h3.2 with ⟨rfl, _⟩ | ⟨k, cap, cur, rfl, _, hh, _⟩
  · simp [Value.ownBlock] at e
  · simp [Value.ownBlock] at e
    subst e
    rw [hb] at hh
    injection hh with hh
    injection hh with _ hh
    exact ht hh

section
variable {w0 W W1 : World} {g : Nat} {s : ByteArray}
theorem IsS49.lt (h : IsS49 w0 W g s) : g < W.heap.size := by
  obtain ⟨v, h1, _⟩ := h
  exact (Array.getElem?_eq_some_iff.1 h1).1
theorem IsS49.ge (h : IsS49 w0 W g s) : w0.heap.size ≤ g := by
  obtain ⟨v, _, h2, _⟩ := h
  exact h2
theorem IsS49.below (h : IsS49 w0 W g s) (hb : Below W.heap.size W W1) : IsS49 w0 W1 g s := by
  obtain ⟨v, h1, h2, h3⟩ := h
  exact ⟨v, (hb.block g (Array.getElem?_eq_some_iff.1 h1).1).trans h1, h2, pw_own_below h3 hb⟩
theorem IsS49.alloc (h : IsS49 w0 W g s) (o : Obj) : IsS49 w0 (W.alloc o) g s := h.below (below_alloc (Below.refl _ _) o)
theorem IsS49.drew (h : IsS49 w0 W g s) : IsS49 w0 W.drew g s := h
theorem IsS49.drewN (h : IsS49 w0 W g s) (m : Nat) : IsS49 w0 (W.drewN m) g s := h
/-- A new one. -/
theorem IsS49.made (w0 W : World) (hB : w0.heap.size ≤ W.heap.size) : IsS49 w0 (W.alloc (.cells #[.slice none 0 0] 49)) W.heap.size ByteArray.empty :=
  ⟨.slice none 0 0, heap_alloc_new W _, hB, own_nil _ _ _ _⟩
/-- Behind an append and its store. -/
theorem IsS49.stored {t : ByteArray} {v v1 : Value} {x : Value} (h : W.heap[g]? = some (.cells #[x] 49 (0, 0))) (hg : w0.heap.size ≤ g) (ho : W.ownsRow w0.heap.size 5 1 v1 t.size (nums .u8 (bytesOf t))) :
    IsS49 w0 (W.setCell ⟨g, 0, none⟩ v1) g t := by
  have hlt := (Array.getElem?_eq_some_iff.1 h).1
  refine ⟨v1, ?_, hg, own_move ho fun k hk => ?_⟩
  · simp only [World.setCell, Array.getElem?_modify, h]
    simp
  · refine Below.heap_setCell W ⟨g, 0, none⟩ v1 k ?_
    intro e
    have e : k = g := e
    rcases ho.2 with ⟨rfl, _⟩ | ⟨k', cap, cur, rfl, _, hh, _⟩
    · simp [Value.ownBlock] at hk
    · have : k' = k := by simpa [Value.ownBlock] using hk
      rw [this, e] at hh
      rw [hh] at h
      injection h with h
      injection h with _ h
      exact absurd h (by decide)
end
end Go.Proofs.Ytblabgdkbcphkaa

/- pack.Writer's Number: a number's bytes are written behind what is there. Conditions: those that the theorem names. -/
set_option linter.unusedVariables false
set_option linter.unusedSimpArgs false
namespace Go.Proofs.Ytblabgdkbcphkaa
open Go.RowKit Go.Proofs.YtblabgdkbcphkaaW.PrintWords

theorem Try.infoByte : (Try.prog.info? 5).map (fun i => (i.zero, i.size, i.bytes)) = some (some (.int .u8 0), 1, 1) := by kernel_rfl

theorem halt_ {p : Prop} (h : Hid p) : p := h
theorem nums_snoc (s : ByteArray) (x : Int) (hx : 0 ≤ x ∧ x ≤ 255) : bytesOf s ++ [x] = bytesOf (s ++ strOfNums [x]) := by
  rw [bytesOf_append, bytesOf_nums [x] (by intro y hy; simp at hy; omega)]

theorem own_ne_blk {W : World} {base n g : Nat} {e t : TypeId} {v : Value} {xs : List Value} {cs : Array Value} {fr : Nat × Nat} (h : W.ownsRow base e 1 v n xs) (hb : W.heap[g]? = some (.cells cs t fr)) (ht : t ≠ e) : some g ≠ v.ownBlock := by
  intro he
  rcases h.2 with ⟨rfl, _⟩ | ⟨k', cap, cur, rfl, _, hh, _⟩
  · simp [Value.ownBlock] at he
  · have : g = k' := by simpa [Value.ownBlock] using he
    subst this
    rw [hh] at hb
    injection hb with hb
    injection hb with _ hb
    exact ht hb.symm
/-- What a call that appends and stores leaves. -/
theorem w_end {w0 w W w1 : World} {g : Nat} {s t : ByteArray} {v v1 : Value} (hb : W.heap[g]? = some (.cells #[v] 49 (0, 0))) (hg : w0.heap.size ≤ g) (hlt : g < W.heap.size) (ho : W.ownsRow w0.heap.size 5 1 v s.size (nums .u8 (bytesOf s)))
    (h1 : w1.ownsRow w0.heap.size 5 1 v1 t.size (nums .u8 (bytesOf t))) (hB1 : Below w0.heap.size w0 w1) (hgr : W.grownBy w1 v.ownBlock) (hat : v1.ownBlock = v.ownBlock ∨ ∃ b, v1.ownBlock = some b ∧ W.heap.size ≤ b) (hK : KeepW w W g) :
    IsS49 w0 (w1.setCell ⟨g, 0, none⟩ v1) g t ∧ Below w0.heap.size w0 (w1.setCell ⟨g, 0, none⟩ v1) ∧ KeepW w (w1.setCell ⟨g, 0, none⟩ v1) g := by
  have hne := own_ne_blk ho hb (by decide)
  have hb1 : w1.heap[g]? = some (.cells #[v] 49 (0, 0)) := (hgr.block g hlt hne).trans hb
  refine ⟨IsS49.stored (v := v) hb1 hg h1, hB1.setCell hg _, hK.trans fun _ => ⟨?_, ?_, ?_⟩⟩
  · exact Nat.le_trans hgr.size (by simp [World.setCell])
  · intro i hi hig hir
    rw [rowOf_at hb] at hir
    exact (Below.heap_setCell w1 ⟨g, 0, none⟩ v1 i hig).trans (hgr.block i hi hir)
  · have e : (w1.setCell ⟨g, 0, none⟩ v1).heap[g]? = some (.cells #[v1] 49 (0, 0)) := by
      simp only [World.setCell, Array.getElem?_modify, hb1]
      simp
    rw [rowOf_at e, rowOf_at hb]
    rcases hat with hat | ⟨b, hat, hbb⟩
    · exact .inl hat
    · exact .inr fun b' hb' => by rw [hat] at hb'; injection hb' with hb'; omega

set_option maxRecDepth 100000 in
set_option maxHeartbeats 2000000 in
theorem wnum_small (w0 w : World) (g : Nat) (s : ByteArray) (n : Int) (h0 : 0 ≤ n) (h1 : n < 248) (hI : IsS49 w0 w g s) (hB : Below w0.heap.size w0 w) (hl : s.size + 9 ≤ 140737488355328) :
    Calls Try.prog 15 #[.pointer (some ⟨g, 0, none⟩), .int .u64 n] w fun e w' => e = .returned (.tuple #[]) ∧ IsS49 w0 w' g (s ++ strOfNums [n]) ∧ Below w0.heap.size w0 w' ∧ KeepW w w' g := by
  obtain ⟨t, ht⟩ : ∃ t, t = s ++ strOfNums [n] := ⟨_, rfl⟩
  rw [← ht]
  have HT := Lib.hid ht
  obtain ⟨v, hb, hg, ho⟩ := hI
  have hlt : g < w.heap.size := (Array.getElem?_eq_some_iff.1 hb).1
  have hcell := cell_of_one hb
  have hfree := free_of_one hb
  have HO := Lib.hid ho
  have HB := Lib.hid hB
  have Hb := Lib.hid hb
  have hsz : (bytesOf s).length = s.size := bytesOf_length s
  obtain ⟨A, c, rfl⟩ := own_slice ho
  have hbase := hB.size
  have HS := Lib.hid hsz
  clear ho hB hb hsz ht
  go_enter Try.func15, Try.ntmps15
  have HO' : Hid (w.ownsRow w0.heap.size 5 1 (.slice A s.size c) (bytesOf s).length (nums .u8 (bytesOf s))) := by rw [HS.out]; exact HO.out
  go_wp2_with (at_builtin; refine halt_ ?_)
  refine Lib.hid ?_
  refine print_append_num (w0 := w0) w0.heap.size rfl (.tmp 14) (.tmp 17) 47 5 .u8 1 rfl Try.underlying47 Try.infoByte (by omega) (.slice A s.size c) (bytesOf s) n rfl rfl HO'.out HB.out hbase (by rw [HS.out]; omega) ?_
  intro v1 w1 hown hB1 hgr hat
  rw [nums_snoc s n ⟨h0, by omega⟩, ← HT.out, bytesOf_length] at hown
  obtain ⟨A1, c1, rfl⟩ := own_slice hown
  have Hend := Lib.hid (w_end (w := w) (t := t) Hb.out hg hlt HO.out hown hB1 hgr hat (KeepW.refl w g))
  have hb1 : w1.heap[g]? = some (.cells #[.slice A s.size c] 49 (0, 0)) := (hgr.block g hlt (own_ne_blk HO.out Hb.out (by decide))).trans Hb.out
  have hcell1 := cell_of_one hb1
  have hfree1 := free_of_one hb1
  clear hown hB1 hgr hat hb1 hcell hfree
  go_wp2
  refine bodyPost_ret (results_none rfl _ _ _) rfl ?_
  exact ⟨rfl, Hend.out⟩

theorem infoB : (Try.prog.info? 5).map (fun i => (i.zero, i.size, i.bytes)) = some (some (.int .u8 0), 1, 1) := Try.infoByte
theorem shift_byte (n : Int) (h0 : 0 ≤ n) (k j : Nat) (y : Int) (hj : j < k) (hk : k ≤ 8) (hy : y = ((n.toNat / 256 ^ (k - 1 - j) % 256 : Nat) : Int)) :
    ∃ X : Int, Op.shift BinOp.shr IntKind.u64 n IntKind.i64 (IntKind.i64.wrap (8 * ((k : Int) - 1 - j))) = pure (.int .u64 X) ∧ IntKind.u8.wrap X = y ∧ X % 256 = y := by
  refine ⟨((n.toNat / 256 ^ (k - 1 - j) : Nat) : Int), ?_, ?_, ?_⟩
  · have e : IntKind.i64.wrap (8 * ((k : Int) - 1 - j)) = ((8 * (k - 1 - j) : Nat) : Int) := by
      rw [IntKind.wrap_i64]
      omega
    rw [e, shift_shr .u64 .i64 n _ (by omega) (by simp [IntKind.bits]; omega)]
    congr 2
    rw [Int.toNat_natCast, pow256]
    rw [Int.natCast_ediv, Int.toNat_of_nonneg h0]
    simp
  · rw [hy]; exact (Int.natCast_emod _ _).symm
  · rw [hy]; exact (Int.natCast_emod _ _).symm

theorem grown_drew {w w1 : World} {row : Option Nat} (h : w.drew.grownBy w1 row) : w.grownBy w1 row := ⟨h.os, h.tape, h.output, h.size, h.block⟩
/-- What a round leaves. -/
theorem w_round {w0 w wr w3 : World} {g g3 c3 c2 : Nat} {A2 : Option Addr} {u : ByteArray} {y : Int} (hb : wr.heap[g]? = some (.cells #[.slice A2 u.size c2] 49 (0, 0))) (hg : w0.heap.size ≤ g)
    (ho : wr.ownsRow w0.heap.size 5 1 (.slice A2 u.size c2) u.size (nums .u8 (bytesOf u))) (hown : w3.ownsRow w0.heap.size 5 1 (.slice (some ⟨g3, 0, none⟩) (u.size + 1) c3) (u.size + 1) (nums .u8 (bytesOf u) ++ [.int .u8 y]))
    (hgr : wr.grownBy w3 (Value.slice A2 u.size c2).ownBlock) (hat : (Value.slice A2 u.size c2).ownBlock = some g3 ∨ g3 = wr.heap.size + 1) (hB : Below w0.heap.size w0 wr) (hbase : w0.heap.size ≤ wr.heap.size) (hK : KeepW w wr g) (hy : 0 ≤ y ∧ y ≤ 255) :
    IsS49 w0 (w3.setCell ⟨g, 0, none⟩ (.slice (some ⟨g3, 0, none⟩) (u.size + 1) c3)) g (u ++ strOfNums [y]) ∧ Below w0.heap.size w0 (w3.setCell ⟨g, 0, none⟩ (.slice (some ⟨g3, 0, none⟩) (u.size + 1) c3)) ∧ KeepW w (w3.setCell ⟨g, 0, none⟩ (.slice (some ⟨g3, 0, none⟩) (u.size + 1) c3)) g := by
  have hgw : g < wr.heap.size := (Array.getElem?_eq_some_iff.1 hb).1
  refine w_end (W := wr) (s := u) (t := u ++ strOfNums [y]) hb hg hgw ho ?_ (hB.grown hgr hbase (own_base ho)) hgr ?_ hK
  · have e : (u ++ strOfNums [y]).size = u.size + 1 := by rw [ByteArray.size_append, size_nums]; rfl
    rw [e, ← nums_snoc u y hy]
    have e2 : nums .u8 (bytesOf u ++ [y]) = nums .u8 (bytesOf u) ++ [.int .u8 y] := by simp [nums]
    rw [e2]
    exact hown
  · rcases hat with h | h
    · exact .inl h.symm
    · exact .inr ⟨g3, rfl, by omega⟩

/-- The text behind c bytes of the k. -/
def midW (s : ByteArray) (n : Int) (c : Nat) : ByteArray := s ++ strOfNums ((247 + (byteLen n.toNat : Int)) :: beTo (byteLen n.toNat) n.toNat c)
theorem midW_size (s : ByteArray) (n : Int) (c : Nat) : (midW s n c).size = s.size + 1 + c := by
  unfold midW
  rw [ByteArray.size_append, size_nums]; simp [beTo_length]; omega
theorem midW_zero (s : ByteArray) (n : Int) : midW s n 0 = s ++ strOfNums [247 + (byteLen n.toNat : Int)] := by simp [midW, beTo]
theorem midW_succ (s : ByteArray) (n : Int) (c : Nat) : midW s n (c + 1) = midW s n c ++ strOfNums [((n.toNat / 256 ^ (byteLen n.toNat - 1 - c) % 256 : Nat) : Int)] := by
  unfold midW
  rw [beTo_succ, ← List.cons_append, strOfNums_append, ByteArray.append_assoc]
theorem midW_all (s : ByteArray) (n : Int) (h : ¬ n < 248) : midW s n (byteLen n.toNat) = s ++ encB n := by
  unfold midW encB encN
  rw [if_neg h]

set_option maxRecDepth 100000 in
set_option maxHeartbeats 4000000 in
theorem wnum_big (w0 w : World) (g : Nat) (s : ByteArray) (n : Int) (h0 : 248 ≤ n) (h1 : n ≤ 18446744073709551615) (hI : IsS49 w0 w g s) (hB : Below w0.heap.size w0 w) (hl : s.size + 9 ≤ 140737488355328) :
    Calls Try.prog 15 #[.pointer (some ⟨g, 0, none⟩), .int .u64 n] w fun e w' => e = .returned (.tuple #[]) ∧ IsS49 w0 w' g (s ++ encB n) ∧ Below w0.heap.size w0 w' ∧ KeepW w w' g := by
  have h0' : 0 ≤ n := by omega
  obtain ⟨k, hk⟩ : ∃ k, k = byteLen n.toNat := ⟨_, rfl⟩
  have hkr := byteLen_range (x := n.toNat) (by omega) (by omega)
  rw [← hk] at hkr
  have hlen : Hid ((Lib.bitLen n.toNat + 7) / 8 = k) := hk.symm
  have hlen2 : Lib.bitLen n.toNat ≤ 64 := bitLen_le (Nat.le_refl _) (by omega)
  have Hall := Lib.hid (midW_all s n (by omega))
  rw [← hk] at Hall
  obtain ⟨hk1, hk8⟩ := hkr
  have HK := Lib.hid hk
  obtain ⟨t, ht⟩ : ∃ t, t = midW s n 0 := ⟨_, rfl⟩
  have HT := Lib.hid ht
  obtain ⟨v, hb, hg, ho⟩ := hI
  have hlt : g < w.heap.size := (Array.getElem?_eq_some_iff.1 hb).1
  have hcell := cell_of_one hb
  have hfree := free_of_one hb
  have HO := Lib.hid ho
  have HB := Lib.hid hB
  have Hb := Lib.hid hb
  have hsz : (bytesOf s).length = s.size := bytesOf_length s
  obtain ⟨A, c, rfl⟩ := own_slice ho
  have hbase := hB.size
  have HS := Lib.hid hsz
  have HO' : Hid (w.ownsRow w0.heap.size 5 1 (.slice A s.size c) (bytesOf s).length (nums .u8 (bytesOf s))) := by rw [HS.out]; exact HO.out
  have hL : Hid (∀ w, Calls Try.prog 44 #[.int .u64 n] w fun e w' => e = .returned (.int .i64 (Lib.bitLen n.toNat)) ∧ w = w') := fun w => (Try.bits_Len64 n w (by omega) h1).mono fun _ _ ⟨a, b⟩ => ⟨a, b.symm⟩
  generalize Lib.bitLen n.toNat = L at *
  have hq : ((L : Int) + 7) / 8 = (k : Int) := by have := hlen.out; omega
  clear ho hB hb hsz ht hk
  go_enter Try.func15, Try.ntmps15
  go_wp2_with (first | (go_at_call 44; refine (hL.out _).mono ?_; rintro e w' ⟨rfl, rfl⟩) | (at_builtin; refine halt_ ?_))
  refine Lib.hid ?_
  refine print_append_num (w0 := w0) w0.heap.size rfl (.tmp 29) (.tmp 33) 47 5 .u8 1 rfl Try.underlying47 Try.infoByte (by omega) (.slice A s.size c) (bytesOf s) (247 + (k : Int)) rfl rfl HO'.out HB.out hbase (by rw [HS.out]; omega) ?_
  intro v1 w1 hown hB1 hgr hat
  rw [nums_snoc s (247 + (k : Int)) ⟨by omega, by omega⟩, show s ++ strOfNums [247 + (k : Int)] = t from by rw [HT.out, midW_zero, ← HK.out], bytesOf_length] at hown
  obtain ⟨A1, c1, rfl⟩ := own_slice hown
  have Hend := Lib.hid (w_end (w := w) (t := t) Hb.out hg hlt HO.out hown hB1 hgr hat (KeepW.refl w g))
  have hb1 : w1.heap[g]? = some (.cells #[.slice A s.size c] 49 (0, 0)) := (hgr.block g hlt (own_ne_blk HO.out Hb.out (by decide))).trans Hb.out
  have hcell1 := cell_of_one hb1
  have hfree1 := free_of_one hb1
  clear hown hB1 hgr hat hb1 hcell hfree
  go_wp2
  clear hcell1 hfree1
  go_loopg [5] (k + 1) (fun gk v5 wr => ∃ (j : Nat), j ≤ k ∧ v5 = .int .i64 ((k : Int) - 1 - j) ∧ Aside0 (j + gk = k + 1) ∧ Aside0 (IsS49 w0 wr g (midW s n j) ∧ Below w0.heap.size w0 wr ∧ KeepW w wr g))
  case atStart => exact ⟨0, by omega, by go_num, ⟨by omega⟩, ⟨by rw [← HT.out]; exact Hend.out⟩⟩
  case round =>
    obtain ⟨j, hj, rfl, ⟨hg2⟩, ⟨hI2, hB2, hK2⟩⟩ := hrel
    clear Hend
    rcases (show j < k ∨ k ≤ j by omega) with hlt2 | hge
    · obtain ⟨v, hb, _, ho⟩ := hI2
      have hgw : g < wr.heap.size := (Array.getElem?_eq_some_iff.1 hb).1
      have hcell := cell_of_one hb
      have hfree := free_of_one hb
      have HO2 := Lib.hid ho
      have HB2 := Lib.hid hB2
      have HK2 := Lib.hid hK2
      have Hb2 := Lib.hid hb
      obtain ⟨u, hu⟩ : ∃ u, u = midW s n j := ⟨_, rfl⟩
      obtain ⟨A2, c2, rfl⟩ := own_slice ho
      rw [← hu] at HO2 Hb2 hcell
      have HU := Lib.hid hu
      have hbase2 := hB2.size
      have hus : u.size + 1 ≤ s.size + 9 := by rw [hu, midW_size]; omega
      have HNE : Hid (some g ≠ (Value.slice A2 u.size c2).ownBlock) := own_ne_blk HO2.out Hb2.out (by decide)
      have HUS := Lib.hid hus
      have Hu2 : Hid ((bytesOf u).length = u.size) := bytesOf_length u
      have HO2' : Hid (wr.ownsRow w0.heap.size 5 1 (.slice A2 u.size c2) (bytesOf u).length (nums .u8 (bytesOf u))) := by rw [Hu2.out]; exact HO2.out
      have HG : Hid (j + gk = k + 1) := hg2
      obtain ⟨y, hy⟩ : ∃ y : Int, y = ((n.toNat / 256 ^ (k - 1 - j) % 256 : Nat) : Int) := ⟨_, rfl⟩
      obtain ⟨X, hsh, hc1, hc2⟩ := shift_byte n h0' k j y hlt2 hk8 hy
      have hyb : 0 ≤ y ∧ y ≤ 255 := by omega
      have HY := Lib.hid hy
      have HYB := Lib.hid hyb
      have hi0 := infoB
      obtain ⟨i0, hi, hz⟩ := Option.map_eq_some_iff.1 hi0
      simp only [Prod.mk.injEq] at hz
      have HZ := Lib.hid hz
      have HI := Lib.hid hi
      clear ho hB2 hK2 hb hu hg2 hy hyb hi0 hi hz
      go_wp2
      go_region_law ((refine step_append_lies _ (by rfl) (.tmp 47) (.tmp 53) 47 (by rfl) w0.heap.size 5 i0 (.int .u8 0) 1 1 Try.underlying47 HI.out HZ.out.1 HZ.out.2.1 HZ.out.2.2 (by rfl) (by omega) (.slice A2 u.size c2) u.size (nums .u8 (bytesOf u)) (by rfl) (HO2.out.drew.alloc _) ⟨wr.heap.size, 0, none⟩ 1 1 [.int .u8 y] (by rfl) (by rfl) (World.news_of_block (heap_alloc_new _ _)) (by intro u hu; simp at hu; subst hu; rfl) (by omega) (by unfold maxLen; omega) (by omega) (by simp; omega) (wr.heap.size + 1) (by simp) ?_; intro g3 c3 w3 hown3 hgr3 hat3 hlt3; have hce3 : w3.cell? ⟨g, 0, none⟩ = some (.slice A2 u.size c2) := (hgr3.cell_far _ (by simp; omega) HNE.out).trans ((World.cell?_alloc_lt wr.drew _ _ hgw).trans hcell); have hfr3 : w3.frozen? ⟨g, 0, none⟩ = false := (hgr3.frozen_far _ (by simp; omega) HNE.out).trans ((frozen?_alloc_cells wr.drew _ _ _).trans hfree)))
      all_goals
        have hgr4 : wr.grownBy w3 (Value.slice A2 u.size c2).ownBlock := grown_drew (World.grownBy.trans (World.grownBy_alloc wr.drew _ _) hgr3)
        have Hend := Lib.hid (w_round Hb2.out hg HO2.out hown3 hgr4 hat3 HB2.out hbase2 HK2.out HYB.out)
        have Hs : Hid (u ++ strOfNums [y] = midW s n (j + 1)) := by show _ = _; rw [midW_succ, HU.out, HY.out, ← HK.out]
        clear hown3 hgr3 hgr4 hat3 hce3 hfr3 hcell hfree hsh hc1 hc2
        go_wp2
        go_roundg (gk - 1)
        case measure => have := HG.out; omega
        case rel => exact ⟨j + 1, by omega, by go_num, ⟨by have := HG.out; omega⟩, ⟨by rw [← Hs.out]; exact Hend.out⟩⟩
    · obtain rfl : k = j := by omega
      have Hf : Hid (IsS49 w0 wr g (s ++ encB n) ∧ Below w0.heap.size w0 wr ∧ KeepW w wr g) := by rw [← Hall.out]; exact ⟨hI2, hB2, hK2⟩
      clear hI2 hB2 hK2 hg2
      go_wp2
      go_end0
      exact ⟨rfl, Hf.out⟩
end Go.Proofs.Ytblabgdkbcphkaa

/- pack.Writer's Text and Bytes: a text is written with its length; all that was written. Conditions: those that each theorem names. -/
set_option linter.unusedVariables false
set_option linter.unusedSimpArgs false
namespace Go.Proofs.Ytblabgdkbcphkaa
open Go.RowKit Go.Proofs.YtblabgdkbcphkaaW.PrintWords

section
variable {P : Program} (w : World)
/-- Where the new slice lies: on the old row, or in a new block. -/
theorem append_str_at (base : Nat) (t u ty e : TypeId) (i : TypeInfo) (ht : P.underlying t = some (.slice e)) (hu : P.underlying u = some .string) (hi : P.info? e = some i) (hz : i.zero = some (.int .u8 0))
    (hsize : i.size = 1) (hby : i.bytes = 1) (v : Value) (n : Nat) (xs : List Value) (hown : w.ownsRow base e 1 v n xs) (s : ByteArray)
    (h63 : n + s.size ≤ maxLen) (hbytes : n + s.size ≤ 140737488355328) (hbase : base ≤ w.heap.size) {v' : Value} {w' : World} (hr : (Builtin.append_ #[t, u] ty #[v, .string s]).run P w = .ok v' w') :
    v'.ownBlock = v.ownBlock ∨ v'.ownBlock = some w.heap.size := by
  have hsmall : n + s.size ≤ 9223372036854775807 := by simp only [maxLen] at h63; omega
  have hxl : xs.length = n := by simpa using hown.1
  obtain ⟨v2, w2, hr2, _, _, hnil⟩ := Lib.run_append_own_string (P := P) w base t u ty e i ht hu hi hz hsize hby v n xs hown s h63 hbytes hbase
  rw [hr] at hr2
  injection hr2 with hv _
  subst hv
  rcases hown.2 with ⟨rfl, rfl⟩ | ⟨g, cap, cur, rfl, hbg, hg, hnc, hcm, hcs, htake⟩
  · by_cases hm : s.size = 0
    · exact .inl (by rw [hnil.2 ⟨rfl, hm⟩])
    · have h := run_append_nil_string (P := P) w t u ty e i (.int .u8 0) ht hu hi hz s (by omega) (by omega) (by rw [hby]; omega)
      rw [hr] at h
      injection h with h _
      exact .inr (by rw [h]; rfl)
  · by_cases hroom : n + s.size ≤ cap
    · have hcs' : cur.size = cap := by simpa using hcs
      have h := Lib.run_append_room_string (P := P) w t u ty e i ht hu hi hsize g n cap cur hg s hroom (by omega)
      rw [hr] at h
      injection h with h _
      exact .inl (by rw [h]; rfl)
    · have holds : ∀ j u, xs[j]? = some u → w.cell? ((⟨g, 0, none⟩ : Addr).add j) = some u := hown.cells (g := g) rfl
      have h := Lib.run_append_grow_string (P := P) w t u ty e i (.int .u8 0) ht hu hi hz ⟨g, 0, none⟩ n cap xs (by rw [hsize]; simpa using hxl) holds s (by omega) (by omega) (by rw [hby]; exact growslice_fits (by omega) (by omega))
      rw [hr] at h
      injection h with h _
      exact .inr (by rw [h]; rfl)
end

section
variable {P : Program} {ops : Array Oper} {rest : List Oper} {o : Oper} {a : Act} {Q : Exit → Act → World → Prop}
theorem append_str2 {w0 W : World} (base : Nat) (hgd : o.guard = none) (s x : Operand) (t u e : TypeId)
    (ho : o.op = .call { callee := .builtin .append, args := #[s, x], argTypes := #[t, u] })
    (ht : P.underlying t = some (.slice e)) (hu : P.underlying u = some .string) (hinfo : (P.info? e).map (fun i => (i.zero, i.size, i.bytes)) = some (some (.int .u8 0), 1, 1))
    (v : Value) (z y : ByteArray) (hs : a.eval s = v) (hx : a.eval x = .string y)
    (HO : W.ownsRow base e 1 v z.size (nums .u8 (bytesOf z))) (HB : Below base w0 W) (hbase : base ≤ W.heap.size) (hl : z.size + y.size ≤ 140737488355328)
    (h : ∀ v1 w1, w1.ownsRow base e 1 v1 (z ++ y).size (nums .u8 (bytesOf (z ++ y))) → Below base w0 w1 → W.grownBy w1 v.ownBlock → (v1.ownBlock = v.ownBlock ∨ ∃ b, v1.ownBlock = some b ∧ W.heap.size ≤ b) → wpList P ops Q rest (a.put o.dst v1) w1) :
    wpList P ops Q (o :: rest) a W := by
  obtain ⟨i0, hi, hzz⟩ := Option.map_eq_some_iff.1 hinfo
  simp only [Prod.mk.injEq] at hzz
  obtain ⟨hz0, hz1, hz2⟩ := hzz
  refine wpList_plain hgd fun K hK => ?_
  obtain ⟨v1, w1, hr, h2, h3, h4⟩ := Lib.run_append_own_string (P := P) W base t u o.type e i0 ht hu hi hz0 hz1 hz2 v z.size _ HO y (by simp only [maxLen]; omega) hl hbase
  have hat := append_str_at (P := P) W base t u o.type e i0 ht hu hi hz0 hz1 hz2 v z.size _ HO y (by simp only [maxLen]; omega) hl hbase hr
  unfold Oper.wp execOp
  simp only [ho, resolve, invoke, builtin, Sem.run_bind, Sem.run_pure, Result.andThen_ok, List.map_toArray, List.map_cons, List.map_nil, hs, hx, hr]
  refine hK _ _ (h v1 w1 ?_ (HB.grown h3 hbase (own_base HO)) h3 ?_)
  · rw [ByteArray.size_append, bytesOf_append]
    have e : nums .u8 (bytesOf z ++ bytesOf y) = nums .u8 (bytesOf z) ++ Lib.strCells y := by
      simp [nums, Lib.strCells, bytesOf]
    rw [e]
    exact h2
  · rcases hat with hat | hat
    · exact .inl hat
    · exact .inr ⟨_, hat, Nat.le_refl _⟩
end

/-- Number, of whatever number. -/
theorem wnum (w0 w : World) (g : Nat) (s : ByteArray) (n : Int) (h0 : 0 ≤ n) (h1 : n ≤ 18446744073709551615) (hI : IsS49 w0 w g s) (hB : Below w0.heap.size w0 w) (hl : s.size + 9 ≤ 140737488355328) :
    Calls Try.prog 15 #[.pointer (some ⟨g, 0, none⟩), .int .u64 n] w fun e w' => e = .returned (.tuple #[]) ∧ IsS49 w0 w' g (s ++ encB n) ∧ Below w0.heap.size w0 w' ∧ KeepW w w' g := by
  rcases (show n < 248 ∨ 248 ≤ n by omega) with h | h
  · have e : encB n = strOfNums [n] := by unfold encB encN; rw [if_pos h]
    rw [e]
    exact wnum_small w0 w g s n h0 h hI hB hl
  · exact wnum_big w0 w g s n h h1 hI hB hl

set_option maxHeartbeats 2000000 in
theorem wtext (w0 w : World) (g : Nat) (s x : ByteArray) (hI : IsS49 w0 w g s) (hB : Below w0.heap.size w0 w) (hl : s.size + 9 + x.size ≤ 140737488355328) :
    Calls Try.prog 17 #[.pointer (some ⟨g, 0, none⟩), .string x] w fun e w' => e = .returned (.tuple #[]) ∧ IsS49 w0 w' g (s ++ encB x.size ++ x) ∧ Below w0.heap.size w0 w' ∧ KeepW w w' g := by
  have HN := Lib.hid (wnum w0 w g s x.size (by omega) (by omega) hI hB (by omega))
  obtain ⟨u, hu⟩ : ∃ u, u = s ++ encB x.size := ⟨_, rfl⟩
  rw [← hu]
  rw [← hu] at HN
  have hus : u.size + x.size ≤ 140737488355328 := by rw [hu, ByteArray.size_append]; have := encB_size (n := x.size) (by omega); omega
  obtain ⟨z, hz⟩ : ∃ z, z = u ++ x := ⟨_, rfl⟩
  rw [← hz]
  have HZ := Lib.hid hz
  clear hI hB hu hz
  go_enter Try.func17, Try.ntmps17
  go_wp2_with fail
  refine HN.out.mono ?_
  rintro e w1 ⟨rfl, hI1, hB1, hK1⟩
  obtain ⟨v, hb, hg, ho⟩ := hI1
  have hlt : g < w1.heap.size := (Array.getElem?_eq_some_iff.1 hb).1
  have hcell := cell_of_one hb
  have hfree := free_of_one hb
  have HO := Lib.hid ho
  have HB := Lib.hid hB1
  have Hb := Lib.hid hb
  have HK := Lib.hid hK1
  obtain ⟨A, c, rfl⟩ := own_slice ho
  have hbase := hB1.size
  clear ho hB1 hb hK1 HN
  go_wp2_with (at_builtin; refine halt_ ?_)
  refine Lib.hid ?_
  refine append_str2 (w0 := w0) w0.heap.size rfl (.tmp 15) (.tmp 16) 47 9 5 rfl Try.underlying47 Try.underlying9 Try.infoByte (.slice A u.size c) u x rfl rfl HO.out HB.out hbase (by omega) ?_
  intro v1 w2 hown hB2 hgr hat
  rw [← HZ.out] at hown
  obtain ⟨A1, c1, rfl⟩ := own_slice hown
  have Hend := Lib.hid (w_end (w := w) (t := z) Hb.out hg hlt HO.out hown hB2 hgr hat HK.out)
  have hb1 : w2.heap[g]? = some (.cells #[.slice A u.size c] 49 (0, 0)) := (hgr.block g hlt (own_ne_blk HO.out Hb.out (by decide))).trans Hb.out
  have hcell1 := cell_of_one hb1
  have hfree1 := free_of_one hb1
  clear hown hB2 hgr hat hb1 hcell hfree
  go_wp2
  go_end0
  exact ⟨rfl, Hend.out⟩

theorem wbytes (w0 w : World) (g : Nat) (s : ByteArray) (hI : IsS49 w0 w g s) (hB : Below w0.heap.size w0 w) :
    Calls Try.prog 19 #[.pointer (some ⟨g, 0, none⟩)] w fun e w' => e = .returned (.string s) ∧ IsS49 w0 w' g s ∧ Below w0.heap.size w0 w' ∧ KeepW w w' g := by
  have HI := Lib.hid hI
  have HB := Lib.hid hB
  obtain ⟨v, hb, hg, ho⟩ := hI
  have hcell := cell_of_one hb
  have hfree := free_of_one hb
  have hcv : ∀ n, (convert 47 9 v).run Try.prog (w.drewN n) = .ok (.string s) (w.drewN n) := by
    intro n
    have h := own_string (P := Try.prog) (w := w.drewN n) (src := 47) (dst := 9) (e := 5) Try.underlying47 Try.underlying5 Try.underlying9 (show (w.drewN n).ownsRow w0.heap.size 5 1 v s.size (nums .u8 (bytesOf s)) from ho)
    rw [nums_bytesOf] at h
    exact h
  have hcv0 := hcv 0
  have hcv1 : (convert 47 9 v).run Try.prog w = .ok (.string s) w := hcv0
  clear ho hb hB hcv0
  go_enter Try.func19, Try.ntmps19
  go_wp2
  go_ret
  exact ⟨rfl, HI.out, HB.out, KeepW.refl _ _⟩
end Go.Proofs.Ytblabgdkbcphkaa

/- pack.Writer's Flag and Stamp. Conditions: those that each theorem names. -/
set_option linter.unusedVariables false
set_option linter.unusedSimpArgs false
namespace Go.Proofs.Ytblabgdkbcphkaa
open Go.RowKit Go.Proofs.YtblabgdkbcphkaaW.PrintWords

def flagN (b : Bool) : Int := if b then 1 else 0
def encF (b : Bool) : ByteArray := strOfNums [flagN b]
theorem encF_size (b : Bool) : (encF b).size = 1 := by unfold encF; rw [size_nums]; rfl

set_option maxRecDepth 100000 in
set_option maxHeartbeats 1000000 in
theorem wflag (w0 w : World) (g : Nat) (s : ByteArray) (b : Bool) (hI : IsS49 w0 w g s) (hB : Below w0.heap.size w0 w) (hl : s.size + 9 ≤ 140737488355328) :
    Calls Try.prog 18 #[.pointer (some ⟨g, 0, none⟩), .bool b] w fun e w' => e = .returned (.tuple #[]) ∧ IsS49 w0 w' g (s ++ encF b) ∧ Below w0.heap.size w0 w' ∧ KeepW w w' g := by
  cases b
  · have HN := Lib.hid (wnum w0 w g s 0 (by omega) (by omega) hI hB hl)
    rw [show encB 0 = encF false from rfl] at HN
    clear hI hB
    go_enter Try.func18, Try.ntmps18
    go_wp2_with fail
    refine HN.out.mono ?_
    rintro e w1 ⟨rfl, h1⟩
    have H1 := Lib.hid h1
    clear h1
    go_wp2
    go_end0
    exact ⟨rfl, H1.out⟩
  · have HN := Lib.hid (wnum w0 w g s 1 (by omega) (by omega) hI hB hl)
    rw [show encB 1 = encF true from rfl] at HN
    clear hI hB
    go_enter Try.func18, Try.ntmps18
    go_wp2_with fail
    refine HN.out.mono ?_
    rintro e w1 ⟨rfl, h1⟩
    have H1 := Lib.hid h1
    clear h1
    go_wp2
    go_end0
    exact ⟨rfl, H1.out⟩

set_option maxRecDepth 100000 in
set_option maxHeartbeats 1000000 in
theorem wstamp (w0 w : World) (g : Nat) (s : ByteArray) (p l : Int) (hp : 0 ≤ p ∧ p ≤ 18446744073709551615) (hll : 0 ≤ l ∧ l ≤ 4294967295) (hI : IsS49 w0 w g s) (hB : Below w0.heap.size w0 w) (hl : s.size + 18 ≤ 140737488355328) :
    Calls Try.prog 16 #[.pointer (some ⟨g, 0, none⟩), .agg #[.int .u64 p, .int .u32 l]] w fun e w' => e = .returned (.tuple #[]) ∧ IsS49 w0 w' g (s ++ encB p ++ encB l) ∧ Below w0.heap.size w0 w' ∧ KeepW w w' g := by
  obtain ⟨hp1, hp2⟩ := hp
  obtain ⟨hl1, hl2⟩ := hll
  have hgl := hI.lt
  have hI1 := hI.alloc (.cells #[.int .u64 p, .int .u32 l] 27)
  have hB1 := below_alloc' hB (.cells #[.int .u64 p, .int .u32 l] 27)
  have HI1 := Lib.hid hI1
  have hs := encB_size (n := p) (by omega)
  have HN := Lib.hid (wnum w0 _ g s p (by omega) (by omega) hI1 hB1 (by omega))
  have hb0 : (w.alloc (.cells #[.int .u64 p, .int .u32 l] 27)).heap[w.heap.size]? = some (.cells #[.int .u64 p, .int .u32 l] 27 (0, 0)) := heap_alloc_new w _
  have Hb0 := Lib.hid hb0
  have HK0 := Lib.hid ((KeepW.refl w g).alloc (.cells #[.int .u64 p, .int .u32 l] 27))
  have hne : w.heap.size ≠ g := by omega
  have Hne := Lib.hid hne
  obtain ⟨u, hu⟩ : ∃ u, u = s ++ encB p := ⟨_, rfl⟩
  have hus : u.size + 9 ≤ 140737488355328 := by rw [hu, ByteArray.size_append]; omega
  rw [← hu]
  rw [← hu] at HN
  clear hI hB hI1 hB1 hb0 hne hu hs
  go_enter Try.func16, Try.ntmps16
  go_wp2_with fail
  refine HN.out.mono ?_
  rintro e w1 ⟨rfl, hI2, hB2, hK2⟩
  have hbk := (KeepW.block hK2 HI1.out w.heap.size Hne.out Hb0.out (by decide)).trans Hb0.out
  have c1 : w1.cell? ⟨w.heap.size, 1, none⟩ = some (.int .u32 l) := by rw [cell_of_row w1 _ 1 _ _ _ hbk]; rfl
  have HN2 := Lib.hid (wnum w0 _ g u l (by omega) (by omega) hI2 hB2 hus)
  have HK := Lib.hid (HK0.out.trans hK2)
  clear hI2 hB2 hK2 hbk
  go_wp2_with fail
  refine HN2.out.mono ?_
  rintro e w2 ⟨rfl, hI3, hB3, hK3⟩
  have Hend := Lib.hid (show IsS49 w0 w2 g (u ++ encB l) ∧ Below w0.heap.size w0 w2 ∧ KeepW w w2 g from ⟨hI3, hB3, HK.out.trans hK3⟩)
  clear hI3 hB3 hK3
  go_wp2
  go_end0
  exact ⟨rfl, Hend.out⟩
end Go.Proofs.Ytblabgdkbcphkaa


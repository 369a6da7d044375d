/- A pack.Writer as a state: the text that has been written; and what a call that writes keeps. Conditions: those that each theorem names. -/
import Derived.Test.YtapgmedfedcliaaProg
import Derived.Test.YtapgmedfedcliaaWb
import Derived.Test.YtapgmedfedcliaaWKept
import Derived.Test.YtapgmedfedcliaaWMore
import Derived.WalkKit
import Derived.Lib.Hide
set_option linter.unusedVariables false
set_option linter.unusedSimpArgs false
namespace Go.Proofs.Ytapgmedfedcliaa
open Go.RowKit Go.Proofs.YtapgmedfedcliaaW.PrintWords

theorem below_alloc' {w0 w : World} (h : Below w0.heap.size w0 w) (o : Obj) : Below w0.heap.size w0 (w.alloc o) := below_alloc h o
/-- The Writer at block g: s has been written. -/
def IsS60 (w0 W : World) (g : Nat) (s : ByteArray) : Prop :=
  ∃ v, W.heap[g]? = some (.cells #[v] 60 (0, 0)) ∧ w0.heap.size ≤ g ∧ W.ownsRow w0.heap.size 5 1 v s.size (nums .u8 (bytesOf s))
/-- The block of the row that the one-field struct at block g leads to. -/
def rowOf (W : World) (g : Nat) : Option Nat :=
  match W.heap[g]? with
  | some (.cells cs _ _) => (cs[0]?).bind Value.ownBlock
  | _ => none
theorem rowOf_eq {W W2 : World} {g : Nat} (h : W2.heap[g]? = W.heap[g]?) : rowOf W2 g = rowOf W g := by unfold rowOf; rw [h]
theorem rowOf_at {W : World} {g : Nat} {v : Value} {t : TypeId} {fr : Nat × Nat} (h : W.heap[g]? = some (.cells #[v] t fr)) : rowOf W g = v.ownBlock := by unfold rowOf; rw [h]; rfl
/-- All but block g, the row that it leads to, and what is new since. -/
def KeepW (w W : World) (g : Nat) : Prop := g < w.heap.size → w.heap.size ≤ W.heap.size ∧ (∀ i, i < w.heap.size → i ≠ g → some i ≠ rowOf w g → W.heap[i]? = w.heap[i]?) ∧ (rowOf W g = rowOf w g ∨ ∀ b, rowOf W g = some b → w.heap.size ≤ b)
theorem KeepW.refl (w : World) (g : Nat) : KeepW w w g := fun _ => ⟨Nat.le_refl _, fun _ _ _ _ => rfl, .inl rfl⟩
theorem KeepW.trans {w w1 w2 : World} {g : Nat} (h : KeepW w w1 g) (k : KeepW w1 w2 g) : KeepW w w2 g := by
  intro hg
  obtain ⟨h1, h2, h3⟩ := h hg
  obtain ⟨k1, k2, k3⟩ := k (Nat.lt_of_lt_of_le hg h1)
  refine ⟨Nat.le_trans h1 k1, fun i hi hne hr => ?_, ?_⟩
  · rw [k2 i (Nat.lt_of_lt_of_le hi h1) hne ?_, h2 i hi hne hr]
    rcases h3 with h3 | h3
    · rw [h3]; exact hr
    · intro e; have := h3 i e.symm; omega
  · rcases k3 with k3 | k3
    · rw [k3]
      exact h3
    · exact .inr fun b hb => Nat.le_trans h1 (k3 b hb)
theorem KeepW.below {w w1 w2 : World} {g : Nat} (h : KeepW w w1 g) (k : Below w1.heap.size w1 w2) : KeepW w w2 g := by
  refine h.trans fun hg => ⟨k.size, fun i hi _ _ => k.block i hi, .inl (rowOf_eq (k.block g hg))⟩
theorem KeepW.alloc {w w1 : World} {g : Nat} (h : KeepW w w1 g) (o : Obj) : KeepW w (w1.alloc o) g := h.below (below_alloc (Below.refl _ _) o)
theorem KeepW.drew {w w1 : World} {g : Nat} (h : KeepW w w1 g) : KeepW w w1.drew g := h
theorem KeepW.drewN {w w1 : World} {g : Nat} (h : KeepW w w1 g) (m : Nat) : KeepW w (w1.drewN m) g := h
/-- What is no block of the Writer's is as it was. -/
theorem KeepW.block {w W : World} {w0 : World} {g : Nat} {s : ByteArray} (h : KeepW w W g) (hI : IsS60 w0 w g s) (i : Nat) (hne : i ≠ g) {cs : Array Value} {t : TypeId} {fr : Nat × Nat} (hb : w.heap[i]? = some (.cells cs t fr)) (ht : t ≠ 5) : W.heap[i]? = w.heap[i]? := by
  obtain ⟨v, h1, h2, h3⟩ := hI
  have hlt : ∀ j, (∃ o, w.heap[j]? = some o) → j < w.heap.size := fun j ⟨o, ho⟩ => (Array.getElem?_eq_some_iff.1 ho).1
  refine (h (hlt g ⟨_, h1⟩)).2.1 i (hlt i ⟨_, hb⟩) hne ?_
  rw [rowOf_at h1]
  intro e
  rcases h3.2 with ⟨rfl, _⟩ | ⟨k, cap, cur, rfl, _, hh, _⟩
  · simp [Value.ownBlock] at e
  · simp [Value.ownBlock] at e
    subst e
    rw [hb] at hh
    injection hh with hh
    injection hh with _ hh
    exact ht hh

section
variable {w0 W W1 : World} {g : Nat} {s : ByteArray}
theorem IsS60.lt (h : IsS60 w0 W g s) : g < W.heap.size := by
  obtain ⟨v, h1, _⟩ := h
  exact (Array.getElem?_eq_some_iff.1 h1).1
theorem IsS60.ge (h : IsS60 w0 W g s) : w0.heap.size ≤ g := by
  obtain ⟨v, _, h2, _⟩ := h
  exact h2
theorem IsS60.below (h : IsS60 w0 W g s) (hb : Below W.heap.size W W1) : IsS60 w0 W1 g s := by
  obtain ⟨v, h1, h2, h3⟩ := h
  exact ⟨v, (hb.block g (Array.getElem?_eq_some_iff.1 h1).1).trans h1, h2, pw_own_below h3 hb⟩
theorem IsS60.alloc (h : IsS60 w0 W g s) (o : Obj) : IsS60 w0 (W.alloc o) g s := h.below (below_alloc (Below.refl _ _) o)
theorem IsS60.drew (h : IsS60 w0 W g s) : IsS60 w0 W.drew g s := h
theorem IsS60.drewN (h : IsS60 w0 W g s) (m : Nat) : IsS60 w0 (W.drewN m) g s := h
theorem IsS60.at_ {w' : World} {m : Nat} (hq : W.drewN m = w') (h : IsS60 w0 W g s) : IsS60 w0 w' g s := by subst hq; exact h
/-- Another state's call: one block of another type is written. -/
theorem IsS60.keep {q : Nat} {cs : Array Value} {t : TypeId} {fr : Nat × Nat} (h : IsS60 w0 W g s) (hk : KeepBut W W1 q none) (hq : W.heap[q]? = some (.cells cs t fr)) (h1 : t ≠ 60) (h2 : t ≠ 5) : IsS60 w0 W1 g s := by
  obtain ⟨v, a1, a2, a3⟩ := h
  have hlt : ∀ j, (∃ o, W.heap[j]? = some o) → j < W.heap.size := fun j ⟨o, ho⟩ => (Array.getElem?_eq_some_iff.1 ho).1
  refine ⟨v, (hk.2 g (hlt g ⟨_, a1⟩) ?_ (by simp)).trans a1, a2, own_move a3 fun k hk2 => hk.2 k (own_lt a3 k hk2) ?_ (by simp)⟩
  · rintro rfl
    rw [a1] at hq
    injection hq with hq
    injection hq with _ hq
    exact h1 hq.symm
  · rintro rfl
    rcases a3.2 with ⟨rfl, _⟩ | ⟨k', cap, cur, rfl, _, hh, _⟩
    · simp [Value.ownBlock] at hk2
    · have : k' = k := by simpa [Value.ownBlock] using hk2
      subst this
      rw [hh] at hq
      injection hq with hq
      injection hq with _ hq
      exact h2 hq.symm
/-- A new one. -/
theorem IsS60.made (w0 W : World) (hB : w0.heap.size ≤ W.heap.size) : IsS60 w0 (W.alloc (.cells #[.slice none 0 0] 60)) W.heap.size ByteArray.empty :=
  ⟨.slice none 0 0, heap_alloc_new W _, hB, own_nil _ _ _ _⟩
/-- Behind an append and its store. -/
theorem IsS60.stored {t : ByteArray} {v v1 : Value} {x : Value} (h : W.heap[g]? = some (.cells #[x] 60 (0, 0))) (hg : w0.heap.size ≤ g) (ho : W.ownsRow w0.heap.size 5 1 v1 t.size (nums .u8 (bytesOf t))) :
    IsS60 w0 (W.setCell ⟨g, 0, none⟩ v1) g t := by
  have hlt := (Array.getElem?_eq_some_iff.1 h).1
  refine ⟨v1, ?_, hg, own_move ho fun k hk => ?_⟩
  · simp only [World.setCell, Array.getElem?_modify, h]
    simp
  · refine Below.heap_setCell W ⟨g, 0, none⟩ v1 k ?_
    intro e
    have e : k = g := e
    rcases ho.2 with ⟨rfl, _⟩ | ⟨k', cap, cur, rfl, _, hh, _⟩
    · simp [Value.ownBlock] at hk
    · have : k' = k := by simpa [Value.ownBlock] using hk
      rw [this, e] at hh
      rw [hh] at h
      injection h with h
      injection h with _ h
      exact absurd h (by decide)
theorem IsS60.size_le (h : IsS60 w0 W g s) : s.size ≤ 9223372036854775807 := by
  obtain ⟨v, _, _, h3⟩ := h
  rcases h3.2 with ⟨_, h0⟩ | ⟨g', cap', cur, he, _, _, h1, h2, _⟩
  · omega
  · simp only [maxLen] at h2
    omega
end
end Go.Proofs.Ytapgmedfedcliaa

/- How a slice that came in reads as a list: for every kind of element that reads. Conditions: those that each theorem names. -/
import Derived.Test.YtblabgdkbcphkaaWWords
import Derived.Deep.Slices
import Derived.ChangeArms
import Derived.SizedLaws
set_option linter.unusedVariables false
set_option linter.unusedSimpArgs false
namespace Go.Proofs.Ytblabgdkbcphkaa
open Go.RowKit Go.Deep Go.Proofs.YtblabgdkbcphkaaW.PrintWords

/-- A slice's datum and the list that is read: element by element. -/
def QSlice {H : Type} {α : Type} (Q : α → DataW H → Prop) (l : List α) (d : DataW H) : Prop :=
  (d = .nil ∧ l = []) ∨ ∃ (ds sp : List (DataW H)), d = .slice ds sp ∧ ds.length = l.length ∧ ∀ i (h : i < l.length) (h' : i < ds.length), Q l[i] ds[i]

theorem mapM_range {α : Type} (f : Nat → Option α) : ∀ (n : Nat) (cs : List α), (List.range n).mapM f = some cs → cs.length = n ∧ ∀ i, i < n → f i = cs[i]? := by
  intro n
  induction n with
  | zero => intro cs h; simp at h; subst h; simp
  | succ n ih =>
    intro cs h
    rw [List.range_succ, List.mapM_append] at h
    cases h1 : (List.range n).mapM f with
    | none => simp [h1] at h
    | some c1 =>
      cases h2 : f n with
      | none => simp [h1, h2] at h
      | some x =>
        simp [h1, h2] at h
        subst h
        obtain ⟨hl, hi⟩ := ih c1 h1
        refine ⟨by simp [hl], fun i hin => ?_⟩
        by_cases hc : i < n
        · rw [hi i hc, List.getElem?_append_left (by omega)]
        · obtain rfl : i = n := by omega
          rw [h2, List.getElem?_append_right (by omega), hl]; simp

theorem choose_list {α : Type} : ∀ (n : Nat) (p : Nat → α → Prop), (∀ i, i < n → ∃ y, p i y) → ∃ l : List α, l.length = n ∧ ∀ i (h : i < l.length), p i l[i] := by
  intro n
  induction n with
  | zero => intro p _; exact ⟨[], rfl, fun i h => absurd h (by simp)⟩
  | succ n ih =>
    intro p h
    obtain ⟨l, hl, hp⟩ := ih p (fun i hi => h i (by omega))
    obtain ⟨y, hy⟩ := h n (by omega)
    refine ⟨l ++ [y], by simp [hl], fun i hi => ?_⟩
    by_cases hc : i < l.length
    · rw [List.getElem_append_left hc]; exact hp i hc
    · obtain rfl : i = n := by simp at hi; omega
      rw [List.getElem_append_right (by omega)]; simpa using hy
theorem add_add' (a : Addr) (i j : Nat) : (a.add i).add j = a.add (i + j) := by
  unfold Addr.add
  by_cases hi : i = 0 <;> by_cases hj : j = 0 <;> simp [hi, hj, Nat.add_assoc]

section
variable {H : Type} {enc : TypeId × Value → H} {P : Program} {W : World} {base : Nat} {spare : Nat → Bool} {held : Bool}
theorem open_kd {α : Type} {k : Kd α} {Q : α → DataW H → Prop} {t e : TypeId} {fuel : Nat} {cs : List Value} {x : DataW H × List MemPlace}
    (ht : P.underlying t = some (.slice e)) (hsz : P.cellsOf e = k.sz)
    (hO : ∀ n cs x, DataW.trod enc P W base spare held n e cs = some x → ∃ a, k.K W a cs ∧ Q a x.1)
    (h : DataW.trod enc P W base spare held fuel t cs = some x) :
    ∃ (A : Option Addr) (c : Nat) (l : List α), cs = [.slice A l.length c] ∧ l.length ≤ c ∧ k.C W A l.length l ∧ QSlice Q l x.1 := by
  rcases open_slice ht h with ⟨rfl, rfl⟩ | ⟨a, len, cap, m, n, D, Pl, rfl, hb, hl, hm, hmm, rfl, hx⟩
  · exact ⟨none, 0, [], rfl, Nat.le_refl _, Kd.C_nil k W, .inl ⟨rfl, rfl⟩⟩
  · have hlm : len ≤ m := by rw [hmm]; split <;> omega
    have key : ∀ i, i < len → ∃ y : α, ∃ c, c.length = k.sz ∧ k.K W y c ∧ Q y (D i) ∧ ∀ j u, c[j]? = some u → W.cell? (a.add (i * k.sz + j)) = some u := by
      intro i hi
      obtain ⟨c, hc, ht⟩ := hx i (by omega)
      obtain ⟨y, hK, hQ⟩ := hO _ _ _ ht
      rw [hsz] at hc
      unfold World.cells? at hc
      split at hc
      · obtain ⟨hcl, hci⟩ := mapM_range _ _ _ hc
        refine ⟨y, c, hcl, hK, hQ, fun j u hu => ?_⟩
        have hj : j < c.length := by
          rcases Nat.lt_or_ge j c.length with h | h
          · exact h
          · rw [List.getElem?_eq_none h] at hu; cases hu
        rw [← add_add', hci j (by omega), hu]
      · cases hc
    obtain ⟨l, rfl, hf⟩ := choose_list len _ key
    refine ⟨some a, cap, l, rfl, hl, ⟨rfl, by unfold maxLen at hm; omega, fun _ => ⟨a, rfl, fun j p hp => ?_⟩⟩, ?_⟩
    · obtain ⟨hj, rfl⟩ := List.getElem?_eq_some_iff.1 hp
      obtain ⟨c, h1, h2, _, h4⟩ := hf j hj
      exact ⟨c, h1, h2, h4⟩
    · right
      refine ⟨_, _, rfl, by simp, fun i h h' => ?_⟩
      obtain ⟨c, _, _, h3, _⟩ := hf i h
      simpa using h3
end
end Go.Proofs.Ytblabgdkbcphkaa

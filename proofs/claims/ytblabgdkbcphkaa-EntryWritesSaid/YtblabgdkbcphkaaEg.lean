/- What an entry is written as, in plain words. -/
import Derived.Test.YtblabgdkbcphkaaEf
set_option linter.unusedVariables false
set_option linter.unusedSimpArgs false
set_option linter.constructorNameAsVariable false
namespace Go.Proofs.Ytblabgdkbcphkaa
open Go.RowKit Go.Proofs.YtblabgdkbcphkaaW.PrintWords Go.Proofs.Ytblabgdkbcphkaa.PEs

def txE (s : ByteArray) : ByteArray := encB s.size ++ s
def encW (x : S54) : ByteArray := txE x.f0 ++ encF x.f2 ++ txE x.f1
/-- Of a list, one behind the other. -/
def encs {α : Type} (f : α → ByteArray) : List α → ByteArray
  | [] => ByteArray.empty
  | x :: l => f x ++ encs f l
theorem encs_snoc {α : Type} (f : α → ByteArray) (l : List α) (x : α) : encs f (l ++ [x]) = encs f l ++ f x := by
  induction l with
  | nil => simp [encs]
  | cons y l ih => rw [List.cons_append, encs, ih, encs, ByteArray.append_assoc]
theorem encs_take {α : Type} (f : α → ByteArray) (l : List α) (i : Nat) (h : i < l.length) : encs f (l.take (i + 1)) = encs f (l.take i) ++ f l[i] := by
  rw [List.take_succ_eq_append_getElem h, encs_snoc]
theorem encs_size {α : Type} (f : α → ByteArray) (m : Nat) (l : List α) (h : ∀ x ∈ l, (f x).size ≤ m) : (encs f l).size ≤ l.length * m := by
  induction l with
  | nil => simp [encs]
  | cons y l ih =>
    have h1 := h y (List.mem_cons_self ..)
    have h2 := ih fun x hx => h x (List.mem_cons_of_mem _ hx)
    rw [encs, ByteArray.size_append, List.length_cons, Nat.succ_mul]
    omega
theorem bz (n : Int) (h : 0 ≤ n ∧ n ≤ 18446744073709551615) : (encB n).size ≤ 9 := by have := encB_size (n := n) (by omega); omega
theorem tz (s : ByteArray) (m : Nat) (h : s.size ≤ m) (hm : m ≤ 1000) : (txE s).size ≤ 9 + m := by
  unfold txE
  rw [ByteArray.size_append]
  have := bz (s.size : Int) ⟨by omega, by omega⟩
  omega
/-- The bytes of an entry. -/
def encE (e : En) : ByteArray := encB e.k ++ (if hB e.k = true then encB e.bc ++ encB e.bn else ByteArray.empty) ++ (if hS e.k = true then encB e.sp ++ encB e.sl else ByteArray.empty) ++ (if hM e.k = true then encB e.mp ++ encB e.ml else ByteArray.empty) ++ (if hA e.k = true then encB e.ap ++ encB e.al else ByteArray.empty) ++ (if hM e.k = true then txE e.pr ++ encB e.ws.length else ByteArray.empty) ++ encs encW e.ws ++ (if hT e.k = true then encB e.parts else ByteArray.empty) ++ (if hD e.k = true then encF e.done else ByteArray.empty)
def writeE (e : En) : ByteArray × Int := if rightE e = true then (encE e, 0) else (⟨#[]⟩, 1)
theorem latchGo_all (l : List S54) : ∀ acc, latchGo acc l = true → ∀ x ∈ l, okW x = true := by
  induction l with
  | nil => intro acc _ x hx; cases hx
  | cons y l ih =>
    intro acc h x hx
    rw [latchGo, Bool.and_eq_true, Bool.and_eq_true] at h
    rcases List.mem_cons.1 hx with rfl | hx
    · exact h.1.1
    · exact ih _ h.2 x hx
theorem latch_facts (ws : List S54) (h : latchR ws = true) : 1 ≤ ws.length ∧ ws.length ≤ 16 ∧ ∀ x ∈ ws, (1 ≤ x.f0.size ∧ x.f0.size ≤ 32) ∧ x.f1.size ≤ 256 := by
  unfold latchR at h
  simp only [Bool.and_eq_true, decide_eq_true_eq] at h
  refine ⟨h.1.1, h.1.2, fun x hx => ?_⟩
  have h2 := latchGo_all ws [] h.2 x hx
  unfold okW keyB at h2
  simp only [Bool.and_eq_true, decide_eq_true_eq] at h2
  exact ⟨h2.1.1, h2.1.2⟩
theorem rts_le {p l : Int} (h : rts p l = true) : p ≤ 281474976710656 ∧ l ≤ 4095 := by
  unfold rts at h
  simpa using h
/-- What is known of an entry that is right. -/
theorem right_facts (e : En) (h : rightE e = true) : (1 ≤ e.k ∧ e.k ≤ 9) ∧ okE e = true ∧ (e.sp ≤ 281474976710656 ∧ e.sl ≤ 4095) ∧ (e.ap ≤ 281474976710656 ∧ e.al ≤ 4095) ∧ (e.mp ≤ 281474976710656 ∧ e.ml ≤ 4095) ∧ tailE e = true := by
  unfold rightE at h
  simp only [Bool.and_eq_true, decide_eq_true_eq] at h
  obtain ⟨⟨⟨⟨⟨⟨h1, h2⟩, h3⟩, h4⟩, h5⟩, h6⟩, h7⟩ := h
  exact ⟨⟨h1, h2⟩, h3, rts_le h4, rts_le h5, rts_le h6, h7⟩
theorem right_nows (e : En) (h : rightE e = true) (hw : hW e.k = false) : e.ws = [] := by
  have h1 := (right_facts e h).2.1
  unfold okE at h1
  simp only [Bool.and_eq_true] at h1
  have h2 := h1.1.1.2
  rw [hw, Bool.false_or] at h2
  unfold z at h2
  have h3 : (e.ws.length : Int) = 0 := by simpa using h2
  exact List.length_eq_zero_iff.1 (by omega)
theorem right_pr (e : En) (h : rightE e = true) (hk : e.k = 2) : (1 ≤ e.pr.size ∧ e.pr.size ≤ 32) ∧ latchR e.ws = true := by
  have h1 := (right_facts e h).2.2.2.2.2
  unfold tailE at h1
  rw [if_pos hk, Bool.and_eq_true] at h1
  refine ⟨?_, h1.2⟩
  have := h1.1
  unfold keyB at this
  simpa using this
theorem right_one (e : En) (h : rightE e = true) (hk : e.k = 8) : e.ws.length = 1 ∧ latchR e.ws = true := by
  have h1 := (right_facts e h).2.2.2.2.2
  unfold tailE at h1
  rw [if_neg (by omega), if_neg (by omega), if_pos hk, Bool.and_eq_true] at h1
  exact ⟨by simpa using h1.1, h1.2⟩
theorem right_ws (e : En) (h : rightE e = true) : e.ws.length ≤ 16 ∧ ∀ x ∈ e.ws, (1 ≤ x.f0.size ∧ x.f0.size ≤ 32) ∧ x.f1.size ≤ 256 := by
  cases hw : hW e.k with
  | false => rw [right_nows e h hw]; exact ⟨by simp, fun x hx => by cases hx⟩
  | true =>
    unfold hW at hw
    simp only [Bool.or_eq_true, decide_eq_true_eq] at hw
    rcases hw with hk | hk
    · exact (latch_facts _ (right_pr e h hk).2).2
    · exact (latch_facts _ (right_one e h hk).2).2
theorem encW_size (x : S54) (h : x.f0.size ≤ 32 ∧ x.f1.size ≤ 256) : (encW x).size ≤ 400 := by
  have h1 := tz x.f0 32 h.1 (by omega)
  have h2 := tz x.f1 256 h.2 (by omega)
  have h3 := encF_size x.f2
  unfold encW
  rw [ByteArray.size_append, ByteArray.size_append]
  omega
theorem made_at {w0 W : World} {g : Nat} (h : W.heap[g]? = some (.cells #[.slice none 0 0] 49 (0, 0))) (hB : w0.heap.size ≤ g) : IsS49 w0 W g ByteArray.empty :=
  ⟨.slice none 0 0, h, hB, own_nil _ _ _ _⟩
end Go.Proofs.Ytblabgdkbcphkaa

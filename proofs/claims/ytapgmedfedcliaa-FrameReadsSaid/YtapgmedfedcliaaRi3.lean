/- pack's Reader and Writer as the frame needs them: contracts, what is read of what was written, what a call of the one keeps of the other. Conditions: those that each theorem names. -/
import Derived.Test.YtapgmedfedcliaaRp
import Derived.Test.YtapgmedfedcliaaWt
set_option linter.unusedVariables false
set_option linter.unusedSimpArgs false
namespace Go.Proofs.Ytapgmedfedcliaa
open Go.RowKit Go.Proofs.YtapgmedfedcliaaW.PrintWords PRd

theorem numR_facts (s : ByteArray) (m : Int) (hm : 0 ≤ m) : 0 ≤ (numR s m).1 ∧ (numR s m).1 ≤ m ∧ (numR s m).2.1.size ≤ s.size ∧ ((numR s m).2.2 = 0 ∨ (numR s m).1 = 0 ∧ (numR s m).2.1 = ByteArray.empty) := by
  have hr := bt_range s 0
  have hfin : ∀ (v : Int) (sz : Nat), 0 ≤ v → 0 ≤ (numFin s m v sz).1 ∧ (numFin s m v sz).1 ≤ m ∧ (numFin s m v sz).2.1.size ≤ s.size ∧ ((numFin s m v sz).2.2 = 0 ∨ (numFin s m v sz).1 = 0 ∧ (numFin s m v sz).2.1 = ByteArray.empty) := by
    intro v sz hv
    unfold numFin
    split
    · refine ⟨hv, by assumption, ?_, .inl rfl⟩
      show (s.extract sz s.size).size ≤ s.size
      rw [ByteArray.size_extract]; omega
    · exact ⟨by decide, hm, Nat.zero_le _, .inr ⟨rfl, rfl⟩⟩
  unfold numR
  split
  · exact ⟨by decide, hm, Nat.zero_le _, .inr ⟨rfl, rfl⟩⟩
  · split
    · exact hfin _ _ hr.1
    · split
      · exact ⟨by decide, hm, Nat.zero_le _, .inr ⟨rfl, rfl⟩⟩
      · unfold numBig
        split
        · exact ⟨by decide, hm, Nat.zero_le _, .inr ⟨rfl, rfl⟩⟩
        · exact hfin _ _ (by omega)
theorem rdNum_facts (s : ByteArray) (er m : Int) (hm : 0 ≤ m) : 0 ≤ (rdNum s er m).1 ∧ (rdNum s er m).1 ≤ m ∧ (rdNum s er m).2.1.size ≤ s.size := by
  unfold rdNum
  split
  · have := numR_facts s m hm; exact ⟨this.1, this.2.1, this.2.2.1⟩
  · exact ⟨Int.le_refl 0, hm, Nat.le_refl _⟩
/-- Behind an error no number is read. -/
theorem rdNum_err (s : ByteArray) (er m : Int) (hm : 0 ≤ m) (h : (rdNum s er m).2.2 ≠ 0) : (rdNum s er m).1 = 0 := by
  unfold rdNum at *
  split
  · rename_i h0
    rw [if_pos h0] at h
    rcases (numR_facts s m hm).2.2.2 with h2 | h2
    · exact absurd h2 h
    · exact h2.1
  · rfl

theorem u64_id (x : Int) (h0 : 0 ≤ x) (h1 : x ≤ 9223372036854775807) : IntKind.u64.wrap x = x := by
  have e : IntKind.u64.wrap x = x % 18446744073709551616 := rfl
  rw [e]; omega
section
variable {w0 w : World} {g : Nat} {s : ByteArray} {er : Int}
/-- What each of the Reader's functions leaves. -/
abbrev Left_ (w0 w w' : World) (g : Nat) (s : ByteArray) (er : Int) : Prop := IsS65 w0 w' g s er ∧ Below w0.heap.size w0 w' ∧ KeepBut w w' g none
theorem rleft (hI : IsS65 w0 w g s er) (hB : Below w0.heap.size w0 w) :
    Calls Try.prog 26 #[.pointer (some ⟨g, 0, none⟩)] w fun e w' => e = .returned (.int .i64 (s.size : Int)) ∧ Left_ w0 w w' g s er :=
  pack_Reader_Left.calls g s er _ _ _ w0 w hI hB rfl
theorem rerr (hI : IsS65 w0 w g s er) (hB : Below w0.heap.size w0 w) :
    Calls Try.prog 25 #[.pointer (some ⟨g, 0, none⟩)] w fun e w' => e = .returned (.int .i64 er) ∧ Left_ w0 w w' g s er :=
  PRd.pack_Reader_Err.calls g s er _ _ _ w0 w hI hB rfl
theorem rnew (s : ByteArray) (hB : Below w0.heap.size w0 w) :
    Calls Try.prog 23 #[.string s] w fun e w' => ∃ g, e = .returned (.pointer (some ⟨g, 0, none⟩)) ∧ IsS65 w0 w' g s 0 ∧ Below w0.heap.size w0 w' ∧ Below w.heap.size w w' ∧ w.heap.size ≤ g := by
  refine (pack_NewReader.calls s s 0 w w (Below.refl _ _) rfl).mono ?_
  rintro e w' ⟨g, h1, h2, h3, h4⟩
  exact ⟨g, h1, ⟨h2.1, Nat.le_trans hB.size h2.2⟩, below_step hB h4, h4, h2.2⟩
end

theorem extract_left (a b : ByteArray) (n : Nat) (h : n = a.size) : (a ++ b).extract 0 n = a := by
  apply bytes_ext
  rw [bytesOf_extract, bytesOf_append, List.drop_zero, List.take_left' (by rw [bytesOf_length, h])]
theorem extract_right (a b : ByteArray) (n m : Nat) (h : n = a.size) (hm : m = a.size + b.size) : (a ++ b).extract n m = b := by
  apply bytes_ext
  rw [bytesOf_extract, bytesOf_append, List.take_of_length_le (by rw [List.length_append, bytesOf_length, bytesOf_length]; omega), List.drop_left' (by rw [bytesOf_length, h])]
theorem extract_both (s : ByteArray) (n : Nat) : s = s.extract 0 n ++ s.extract n s.size := by
  apply bytes_ext
  rw [bytesOf_append, bytesOf_extract, bytesOf_extract, ← bytesOf_length, List.take_length, List.drop_zero, List.take_append_drop]
theorem size0 {s : ByteArray} (h : s.size = 0) : s = ByteArray.empty := by
  apply bytes_ext
  rw [bytesOf_empty]
  exact List.eq_nil_of_length_eq_zero (by rw [bytesOf_length]; exact h)

/-! ### Behind an error nothing is left -/
theorem rdNum_left (s : ByteArray) (er m : Int) (hm : 0 ≤ m) (hi : er ≠ 0 → s = ByteArray.empty) : (rdNum s er m).2.2 ≠ 0 → (rdNum s er m).2.1 = ByteArray.empty := by
  unfold rdNum
  split
  · intro h
    rcases (numR_facts s m hm).2.2.2 with h2 | h2
    · exact absurd h2 h
    · exact h2.2
  · exact hi
/-! ### What was read stood there -/
theorem rdNum_inv (s : ByteArray) (er m : Int) (h : (rdNum s er m).2.2 = 0) : er = 0 ∧ s = encB (rdNum s er m).1 ++ (rdNum s er m).2.1 ∧ 0 ≤ (rdNum s er m).1 ∧ (rdNum s er m).1 ≤ m ∧ (rdNum s er m).1 ≤ 18446744073709551615 := by
  unfold rdNum at *
  split at h
  · rename_i h0
    rw [if_pos h0]
    obtain ⟨a, b, c, d⟩ := numR_inv s m (numR s m).1 (numR s m).2.1 (by rw [← h])
    exact ⟨h0, a, b, c, d⟩
  · rename_i h0
    exact absurd h h0
/-! ### What was written is read -/
theorem rdNum_enc (n m : Int) (t : ByteArray) (h0 : 0 ≤ n) (h1 : n ≤ 18446744073709551615) (hm : n ≤ m) : rdNum (encB n ++ t) 0 m = (n, t, 0) := by
  unfold rdNum
  rw [if_pos rfl, numR_enc n m t h0 h1, if_pos hm]

/-- A Reader behind a call of a Writer. -/
theorem rd_keepW {w0 w w' : World} {g r : Nat} {s t : ByteArray} {er : Int} (hk : KeepW w w' g) (hW : IsS60 w0 w g s) (hR : IsS65 w0 w r t er) : IsS65 w0 w' r t er := by
  refine ⟨(hk.block hW r ?_ hR.1 (by decide)).trans hR.1, hR.2⟩
  rintro rfl
  obtain ⟨v, h1, _⟩ := hW
  have h2 := hR.1
  rw [h1] at h2
  simp at h2
/-- A Writer behind a call of a Reader. -/
theorem wr_keepR {w0 w w' : World} {g r : Nat} {s t : ByteArray} {er : Int} (hk : KeepBut w w' r none) (hR : IsS65 w0 w r t er) (hW : IsS60 w0 w g s) : IsS60 w0 w' g s :=
  hW.keep hk hR.1 (by decide) (by decide)

/-- Another block behind a call of a Reader. -/
theorem blk_keepR {w0 w w' : World} {x r : Nat} {t : ByteArray} {er : Int} {cs : Array Value} {ty : TypeId} {fr : Nat × Nat} (hk : KeepBut w w' r none) (hR : IsS65 w0 w r t er) (hX : w.heap[x]? = some (.cells cs ty fr)) (h1 : ty ≠ 65) : w'.heap[x]? = some (.cells cs ty fr) := by
  refine (hk.2 x (Array.getElem?_eq_some_iff.1 hX).1 ?_ (by simp)).trans hX
  rintro rfl
  have h2 := hR.1
  rw [hX] at h2
  injection h2 with h2
  injection h2 with _ h3
  exact h1 h3
/-- Another block behind a call of a Writer. -/
theorem blk_keepW {w0 w w' : World} {x g : Nat} {s : ByteArray} {cs : Array Value} {ty : TypeId} {fr : Nat × Nat} (hk : KeepW w w' g) (hW : IsS60 w0 w g s) (hX : w.heap[x]? = some (.cells cs ty fr)) (h1 : ty ≠ 60) (h2 : ty ≠ 5) : w'.heap[x]? = some (.cells cs ty fr) := by
  refine (hk.block hW x ?_ hX h2).trans hX
  rintro rfl
  obtain ⟨v, h3, _⟩ := hW
  rw [h3] at hX
  injection hX with hX
  injection hX with _ h4
  exact h1 h4.symm

end Go.Proofs.Ytapgmedfedcliaa

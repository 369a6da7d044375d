/- pack.Reader's contracts that the frame needs. Conditions: those that each theorem names. -/
import Derived.Test.YtapgmedfedcliaaRp
set_option linter.unusedVariables false
set_option linter.unusedSimpArgs false
namespace Go.Proofs.Ytapgmedfedcliaa
open Go.RowKit Go.Proofs.YtapgmedfedcliaaW.PrintWords PRd

theorem numR_facts (s : ByteArray) (m : Int) (hm : 0 ≤ m) : 0 ≤ (numR s m).1 ∧ (numR s m).1 ≤ m ∧ (numR s m).2.1.size ≤ s.size ∧ ((numR s m).2.2 = 0 ∨ (numR s m).1 = 0 ∧ (numR s m).2.1 = ByteArray.empty) := by
  have hr := bt_range s 0
  have hfin : ∀ (v : Int) (sz : Nat), 0 ≤ v → 0 ≤ (numFin s m v sz).1 ∧ (numFin s m v sz).1 ≤ m ∧ (numFin s m v sz).2.1.size ≤ s.size ∧ ((numFin s m v sz).2.2 = 0 ∨ (numFin s m v sz).1 = 0 ∧ (numFin s m v sz).2.1 = ByteArray.empty) := by
    intro v sz hv
    unfold numFin
    split
    · refine ⟨hv, by assumption, ?_, .inl rfl⟩
      show (s.extract sz s.size).size ≤ s.size
      rw [ByteArray.size_extract]; omega
    · exact ⟨by decide, hm, Nat.zero_le _, .inr ⟨rfl, rfl⟩⟩
  unfold numR
  split
  · exact ⟨by decide, hm, Nat.zero_le _, .inr ⟨rfl, rfl⟩⟩
  · split
    · exact hfin _ _ hr.1
    · split
      · exact ⟨by decide, hm, Nat.zero_le _, .inr ⟨rfl, rfl⟩⟩
      · unfold numBig
        split
        · exact ⟨by decide, hm, Nat.zero_le _, .inr ⟨rfl, rfl⟩⟩
        · exact hfin _ _ (by omega)
theorem rdNum_facts (s : ByteArray) (er m : Int) (hm : 0 ≤ m) : 0 ≤ (rdNum s er m).1 ∧ (rdNum s er m).1 ≤ m ∧ (rdNum s er m).2.1.size ≤ s.size := by
  unfold rdNum
  split
  · have := numR_facts s m hm; exact ⟨this.1, this.2.1, this.2.2.1⟩
  · exact ⟨Int.le_refl 0, hm, Nat.le_refl _⟩
/-- Behind an error no number is read. -/
theorem rdNum_err (s : ByteArray) (er m : Int) (hm : 0 ≤ m) (h : (rdNum s er m).2.2 ≠ 0) : (rdNum s er m).1 = 0 := by
  unfold rdNum at *
  split
  · rename_i h0
    rw [if_pos h0] at h
    rcases (numR_facts s m hm).2.2.2 with h2 | h2
    · exact absurd h2 h
    · exact h2.1
  · rfl

theorem u64_id (x : Int) (h0 : 0 ≤ x) (h1 : x ≤ 9223372036854775807) : IntKind.u64.wrap x = x := by
  have e : IntKind.u64.wrap x = x % 18446744073709551616 := rfl
  rw [e]; omega
section
variable {w0 w : World} {g : Nat} {s : ByteArray} {er : Int}
/-- What each of the Reader's functions leaves. -/
abbrev Left_ (w0 w w' : World) (g : Nat) (s : ByteArray) (er : Int) : Prop := IsS65 w0 w' g s er ∧ Below w0.heap.size w0 w' ∧ KeepBut w w' g none
theorem rleft (hI : IsS65 w0 w g s er) (hB : Below w0.heap.size w0 w) :
    Calls Try.prog 26 #[.pointer (some ⟨g, 0, none⟩)] w fun e w' => e = .returned (.int .i64 (s.size : Int)) ∧ Left_ w0 w w' g s er :=
  pack_Reader_Left.calls g s er _ _ _ w0 w hI hB rfl
theorem rerr (hI : IsS65 w0 w g s er) (hB : Below w0.heap.size w0 w) :
    Calls Try.prog 25 #[.pointer (some ⟨g, 0, none⟩)] w fun e w' => e = .returned (.int .i64 er) ∧ Left_ w0 w w' g s er :=
  PRd.pack_Reader_Err.calls g s er _ _ _ w0 w hI hB rfl
theorem rnew (s : ByteArray) (hB : Below w0.heap.size w0 w) :
    Calls Try.prog 23 #[.string s] w fun e w' => ∃ g, e = .returned (.pointer (some ⟨g, 0, none⟩)) ∧ IsS65 w0 w' g s 0 ∧ Below w0.heap.size w0 w' ∧ Below w.heap.size w w' ∧ w.heap.size ≤ g := by
  refine (pack_NewReader.calls s s 0 w w (Below.refl _ _) rfl).mono ?_
  rintro e w' ⟨g, h1, h2, h3, h4⟩
  exact ⟨g, h1, ⟨h2.1, Nat.le_trans hB.size h2.2⟩, below_step hB h4, h4, h2.2⟩
end
end Go.Proofs.Ytapgmedfedcliaa

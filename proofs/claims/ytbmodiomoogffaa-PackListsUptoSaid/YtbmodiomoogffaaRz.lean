/- pack.Reader's functions as plain words, and their contracts. Conditions: those that each theorem names. -/
import Derived.Test.YtbmodiomoogffaaRp
import Derived.Test.YtbmodiomoogffaaPRtx
set_option linter.unusedVariables false
set_option linter.unusedSimpArgs false
namespace Go.Proofs.Ytbmodiomoogffaa
open Go.RowKit Go.Proofs.YtbmodiomoogffaaW.PrintWords PRd PRt

theorem numR_facts (s : ByteArray) (m : Int) (hm : 0 ≤ m) : 0 ≤ (numR s m).1 ∧ (numR s m).1 ≤ m ∧ (numR s m).2.1.size ≤ s.size ∧ ((numR s m).2.2 = 0 ∨ (numR s m).1 = 0 ∧ (numR s m).2.1 = ByteArray.empty) := by
  have hr := bt_range s 0
  have hfin : ∀ (v : Int) (sz : Nat), 0 ≤ v → 0 ≤ (numFin s m v sz).1 ∧ (numFin s m v sz).1 ≤ m ∧ (numFin s m v sz).2.1.size ≤ s.size ∧ ((numFin s m v sz).2.2 = 0 ∨ (numFin s m v sz).1 = 0 ∧ (numFin s m v sz).2.1 = ByteArray.empty) := by
    intro v sz hv
    unfold numFin
    split
    · refine ⟨hv, by assumption, ?_, .inl rfl⟩
      show (s.extract sz s.size).size ≤ s.size
      rw [ByteArray.size_extract]; omega
    · exact ⟨by decide, hm, Nat.zero_le _, .inr ⟨rfl, rfl⟩⟩
  unfold numR
  split
  · exact ⟨by decide, hm, Nat.zero_le _, .inr ⟨rfl, rfl⟩⟩
  · split
    · exact hfin _ _ hr.1
    · split
      · exact ⟨by decide, hm, Nat.zero_le _, .inr ⟨rfl, rfl⟩⟩
      · unfold numBig
        split
        · exact ⟨by decide, hm, Nat.zero_le _, .inr ⟨rfl, rfl⟩⟩
        · exact hfin _ _ (by omega)
theorem rdNum_facts (s : ByteArray) (er m : Int) (hm : 0 ≤ m) : 0 ≤ (rdNum s er m).1 ∧ (rdNum s er m).1 ≤ m ∧ (rdNum s er m).2.1.size ≤ s.size := by
  unfold rdNum
  split
  · have := numR_facts s m hm; exact ⟨this.1, this.2.1, this.2.2.1⟩
  · exact ⟨Int.le_refl 0, hm, Nat.le_refl _⟩
/-- Behind an error no number is read. -/
theorem rdNum_err (s : ByteArray) (er m : Int) (hm : 0 ≤ m) (h : (rdNum s er m).2.2 ≠ 0) : (rdNum s er m).1 = 0 := by
  unfold rdNum at *
  split
  · rename_i h0
    rw [if_pos h0] at h
    rcases (numR_facts s m hm).2.2.2 with h2 | h2
    · exact absurd h2 h
    · exact h2.1
  · rfl

abbrev M64 : Int := 18446744073709551615
/-- A text of a length, what is left, the error. -/
def rdText (s : ByteArray) (er lo hi : Int) : ByteArray × ByteArray × Int :=
  if (rdNum s er M64).2.2 = 0 then
    (if hi < 0 ∨ hi < (rdNum s er M64).1 ∨ (rdNum s er M64).1 < mx lo 0 then (ByteArray.empty, ByteArray.empty, 3)
     else if ((rdNum s er M64).2.1.size : Int) < (rdNum s er M64).1 then (ByteArray.empty, ByteArray.empty, 4)
     else ((rdNum s er M64).2.1.extract 0 (rdNum s er M64).1.toNat, (rdNum s er M64).2.1.extract (rdNum s er M64).1.toNat (rdNum s er M64).2.1.size, 0))
  else (ByteArray.empty, (rdNum s er M64).2.1, (rdNum s er M64).2.2)
theorem u64_id (x : Int) (h0 : 0 ≤ x) (h1 : x ≤ 9223372036854775807) : IntKind.u64.wrap x = x := by
  have e : IntKind.u64.wrap x = x % 18446744073709551616 := rfl
  rw [e]; omega
theorem mx_range (x : Int) (h : x ≤ 9223372036854775807) : 0 ≤ mx x 0 ∧ mx x 0 ≤ 9223372036854775807 := by unfold mx; split <;> omega
theorem text_f (s : ByteArray) (er lo hi : Int) (hs : s.size ≤ 9223372036854775807) (h1 : lo ≤ 9223372036854775807) (h2 : hi ≤ 9223372036854775807) : pack_Reader_Text.f 1 s er lo hi = some (rdText s er lo hi) := by
  have hf := rdNum_facts s er M64 (by decide)
  have hmx := mx_range lo h1
  unfold pack_Reader_Text.f pack_Reader_Text.j0 pack_Reader_Number.f pack_Reader_Err.f pack_Reader_fail.f rdText
  rw [if_pos (by decide), if_pos (by decide)]
  show Option.bind _ _ = _
  generalize rdNum s er M64 = q at *
  obtain ⟨n, t, e⟩ := q
  simp only [Option.bind_some] at *
  rw [u64_id _ hmx.1 hmx.2, u64_id (t.size : Int) (by omega) (by omega)]
  by_cases he : e = 0
  · subst he
    rw [if_pos rfl, if_pos rfl]
    by_cases hh : hi < 0
    · rw [if_pos hh, if_pos trivial, if_pos (.inl hh)]; rfl
    · rw [if_neg hh, u64_id hi (by omega) h2]
      by_cases hn : n > hi
      · rw [if_pos hn, if_pos trivial, if_pos (.inr (.inl hn))]; rfl
      · rw [if_neg hn]
        by_cases hl : n < mx lo 0
        · rw [if_pos (by simpa using hl), if_pos (.inr (.inr hl))]; rfl
        · rw [if_neg (by simpa using hl), if_neg (show ¬ (hi < 0 ∨ hi < n ∨ n < mx lo 0) by omega)]
          by_cases hg : (t.size : Int) < n
          · rw [if_pos hg, if_pos hg]; rfl
          · rw [if_neg hg, if_neg hg, if_pos (by omega), if_pos (by omega)]
  · rw [if_neg he, if_neg he]; rfl
/-- A stamp's parts, what is left, the error. -/
def rdStamp (s : ByteArray) (er : Int) : Int × Int × ByteArray × Int :=
  let a := rdNum s er 281474976710656
  let b := rdNum a.2.1 a.2.2 4095
  if b.2.2 = 0 then (a.1, b.1, b.2.1, 0) else (0, 0, b.2.1, b.2.2)
theorem stamp_f (s : ByteArray) (er : Int) : pack_Reader_Stamp.f s er = some (rdStamp s er) := by
  unfold pack_Reader_Stamp.f pack_Reader_Number.f pack_Reader_Err.f rdStamp
  rw [if_pos (by decide), if_pos (by decide)]
  simp only [Option.bind_some]
  rw [if_pos (by decide), if_pos (by decide)]
  simp only [Option.bind_some]
  have hf := rdNum_facts (rdNum s er 281474976710656).2.1 (rdNum s er 281474976710656).2.2 4095 (by decide)
  generalize rdNum (rdNum s er 281474976710656).2.1 (rdNum s er 281474976710656).2.2 4095 = q at *
  split
  · rename_i h; rw [h, Int.emod_eq_of_lt hf.1 (by omega)]
  · rfl
/-- A count. -/
def rdCount (s : ByteArray) (er m : Int) : Int × ByteArray × Int := rdNum s er (mx m 0)
theorem count_f (s : ByteArray) (er m : Int) (hm : m ≤ 9223372036854775807) : pack_Reader_Count.f s er m = some (rdCount s er m) := by
  have hmx := mx_range m hm
  unfold pack_Reader_Count.f pack_Reader_Number.f rdCount
  rw [u64_id _ hmx.1 hmx.2, if_pos hmx.1, if_pos (by omega)]
  have hf := rdNum_facts s er (mx m 0) hmx.1
  simp only [Option.bind_some]
  rw [show wrap64 (rdNum s er (mx m 0)).1 = (rdNum s er (mx m 0)).1 from by unfold wrap64; omega]
/-- A flag. -/
def rdFlag (s : ByteArray) (er : Int) : Bool × ByteArray × Int :=
  if er = 0 then
    (if s.size = 0 then (false, ByteArray.empty, 4) else if 1 < bt s 0 then (false, ByteArray.empty, 2) else (decide (bt s 0 = 1), s.extract 1 s.size, 0))
  else (false, s, er)
theorem toList_nil (s : ByteArray) : (s.toList = ([] : List UInt8)) ↔ s.size = 0 := by
  have : s.toList.length = s.size := by rw [ByteArray.toList_eq, data_length]
  rw [← this, List.length_eq_zero_iff]
theorem flag_f (s : ByteArray) (er : Int) : pack_Reader_Flag.f s er = some (rdFlag s er) := by
  unfold pack_Reader_Flag.f PRd.pack_Reader_Err.f PRd.pack_Reader_fail.f rdFlag
  simp only [Option.bind_some, toList_nil]
  by_cases he : er = 0
  · subst he
    rw [if_pos rfl, if_pos rfl]
    by_cases h0 : s.size = 0
    · rw [if_pos h0, if_pos h0]; rfl
    · rw [if_neg h0, if_neg h0, if_pos (by omega)]
      by_cases h1 : 1 < bt s 0
      · rw [if_pos h1, if_pos h1]; rfl
      · rw [if_neg h1, if_neg h1, if_pos (by omega)]; rfl
  · rw [if_neg he, if_neg he]
/-- What End answers. -/
def rdEnd (s : ByteArray) (er : Int) : Int := if er = 0 then (if s.size = 0 then 0 else 2) else er
theorem end_f (s : ByteArray) (er : Int) : pack_Reader_End.f s er = some (rdEnd s er, s, er) := by
  unfold pack_Reader_End.f PRd.pack_Reader_Err.f rdEnd
  simp only [Option.bind_some, toList_nil]
  by_cases he : er = 0
  · subst he
    rw [if_pos rfl, if_pos rfl]
    split <;> rfl
  · rw [if_neg he, if_neg he]

section
variable {w0 w : World} {g : Nat} {s : ByteArray} {er : Int}
/-- What each of the Reader's functions leaves. -/
abbrev Left_ (w0 w w' : World) (g : Nat) (s : ByteArray) (er : Int) : Prop := IsS63 w0 w' g s er ∧ Below w0.heap.size w0 w' ∧ KeepBut w w' g none
theorem rtext (lo hi : Int) (hI : IsS63 w0 w g s er) (hB : Below w0.heap.size w0 w) (hs : s.size ≤ 9223372036854775807) (h1 : lo ≤ 9223372036854775807) (h2 : hi ≤ 9223372036854775807) :
    Calls Try.prog 16 #[.pointer (some ⟨g, 0, none⟩), .int .i64 lo, .int .i64 hi] w fun e w' => e = .returned (.string (rdText s er lo hi).1) ∧ Left_ w0 w w' g (rdText s er lo hi).2.1 (rdText s er lo hi).2.2 :=
  pack_Reader_Text.calls 1 g s er lo hi _ _ _ w0 w hI hB (text_f s er lo hi hs h1 h2)
theorem rstamp (hI : IsS63 w0 w g s er) (hB : Below w0.heap.size w0 w) :
    Calls Try.prog 21 #[.pointer (some ⟨g, 0, none⟩)] w fun e w' => e = .returned (.agg #[.int .u64 (rdStamp s er).1, .int .u32 (rdStamp s er).2.1]) ∧ Left_ w0 w w' g (rdStamp s er).2.2.1 (rdStamp s er).2.2.2 :=
  pack_Reader_Stamp.calls g s er _ _ _ _ w0 w hI hB (stamp_f s er)
theorem rcount (m : Int) (hI : IsS63 w0 w g s er) (hB : Below w0.heap.size w0 w) (hm : m ≤ 9223372036854775807) :
    Calls Try.prog 15 #[.pointer (some ⟨g, 0, none⟩), .int .i64 m] w fun e w' => e = .returned (.int .i64 (rdCount s er m).1) ∧ Left_ w0 w w' g (rdCount s er m).2.1 (rdCount s er m).2.2 :=
  pack_Reader_Count.calls g s er m _ _ _ w0 w hI hB (count_f s er m hm)
theorem rflag (hI : IsS63 w0 w g s er) (hB : Below w0.heap.size w0 w) :
    Calls Try.prog 28 #[.pointer (some ⟨g, 0, none⟩)] w fun e w' => e = .returned (.bool (rdFlag s er).1) ∧ Left_ w0 w w' g (rdFlag s er).2.1 (rdFlag s er).2.2 :=
  pack_Reader_Flag.calls g s er _ _ _ w0 w hI hB (flag_f s er)
theorem rend (hI : IsS63 w0 w g s er) (hB : Below w0.heap.size w0 w) :
    Calls Try.prog 17 #[.pointer (some ⟨g, 0, none⟩)] w fun e w' => e = .returned (.int .i64 (rdEnd s er)) ∧ Left_ w0 w w' g s er :=
  pack_Reader_End.calls g s er _ _ _ w0 w hI hB (end_f s er)
theorem rleft (hI : IsS63 w0 w g s er) (hB : Below w0.heap.size w0 w) :
    Calls Try.prog 22 #[.pointer (some ⟨g, 0, none⟩)] w fun e w' => e = .returned (.int .i64 (s.size : Int)) ∧ Left_ w0 w w' g s er :=
  pack_Reader_Left.calls g s er _ _ _ w0 w hI hB rfl
theorem rerr (hI : IsS63 w0 w g s er) (hB : Below w0.heap.size w0 w) :
    Calls Try.prog 18 #[.pointer (some ⟨g, 0, none⟩)] w fun e w' => e = .returned (.int .i64 er) ∧ Left_ w0 w w' g s er :=
  PRd.pack_Reader_Err.calls g s er _ _ _ w0 w hI hB rfl
theorem rnew (s : ByteArray) (hB : Below w0.heap.size w0 w) :
    Calls Try.prog 14 #[.string s] w fun e w' => ∃ g, e = .returned (.pointer (some ⟨g, 0, none⟩)) ∧ IsS63 w0 w' g s 0 ∧ Below w0.heap.size w0 w' ∧ Below w.heap.size w w' ∧ w.heap.size ≤ g := by
  refine (pack_NewReader.calls s s 0 w w (Below.refl _ _) rfl).mono ?_
  rintro e w' ⟨g, h1, h2, h3, h4⟩
  exact ⟨g, h1, ⟨h2.1, Nat.le_trans hB.size h2.2⟩, below_step hB h4, h4, h2.2⟩
end
end Go.Proofs.Ytbmodiomoogffaa

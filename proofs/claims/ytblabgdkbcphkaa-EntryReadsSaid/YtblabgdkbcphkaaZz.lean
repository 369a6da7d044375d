/- What Reader.Number reads of what Writer.Number wrote, and the other way round. No program in sight. -/
import Derived.Test.YtblabgdkbcphkaaZr
import Derived.Test.YtblabgdkbcphkaaPRtx
import Derived.Test.YtblabgdkbcphkaaZw
set_option linter.unusedVariables false
set_option linter.unusedSimpArgs false
namespace Go.Proofs.Ytblabgdkbcphkaa
open Go.RowKit Go.Proofs.YtblabgdkbcphkaaW.PrintWords

theorem bytesOf_length (s : ByteArray) : (bytesOf s).length = s.size := by unfold bytesOf; rw [List.length_map]; exact Array.length_toList
theorem bytesOf_extract (s : ByteArray) (a b : Nat) : bytesOf (s.extract a b) = ((bytesOf s).take b).drop a := by
  unfold bytesOf
  rw [ByteArray.data_extract, Array.toList_extract, List.extract_eq_drop_take', List.map_drop, List.map_take]
theorem bytesOf_empty : bytesOf ByteArray.empty = [] := rfl
theorem bt_get (s : ByteArray) (i : Nat) : bt s (i : Int) = (bytesOf s).getD i 0 := by
  unfold bt
  simp only [Int.toNat_natCast]
  split
  · rename_i h
    have hl : i < (bytesOf s).length := by rw [bytesOf_length]; exact h
    rw [List.getD_eq_getElem?_getD, List.getElem?_eq_getElem hl]
    simp [bytesOf]
    rfl
  · rename_i h
    have hl : (bytesOf s).length ≤ i := by rw [bytesOf_length]; omega
    rw [List.getD_eq_getElem?_getD, List.getElem?_eq_none hl]; rfl
/-- The number that bytes make, the greatest first. -/
def val (l : List Int) : Nat := l.foldl (fun a b => a * 256 + b.toNat) 0
theorem val_snoc (l : List Int) (b : Int) : val (l ++ [b]) = val l * 256 + b.toNat := by simp [val]
theorem beVal_eq (s : ByteArray) (c : Nat) (h : c < s.size) : beVal s c = val (((bytesOf s).drop 1).take c) := by
  induction c with
  | zero => simp [beVal, val]
  | succ c ih =>
    have hl : c < ((bytesOf s).drop 1).length := by rw [List.length_drop, bytesOf_length]; omega
    rw [List.take_succ_eq_append_getElem hl, val_snoc, beVal, ih (by omega), bt_get]
    have h2 : c + 1 < (bytesOf s).length := by rw [bytesOf_length]; omega
    rw [List.getD_eq_getElem?_getD, List.getElem?_eq_getElem h2]
    simp [Nat.add_comm]
theorem beTo_up (k v b : Nat) (hb : b < 256) (c : Nat) (hc : c ≤ k) : beTo (k + 1) (v * 256 + b) c = beTo k v c := by
  unfold beTo
  apply List.map_congr_left
  intro j hj
  have hj := List.mem_range.1 hj
  have e : k + 1 - 1 - j = (k - 1 - j) + 1 := by omega
  rw [e, Nat.pow_succ, Nat.mul_comm (256 ^ (k - 1 - j)) 256, ← Nat.div_div_eq_div_mul, show (v * 256 + b) / 256 = v by omega]
theorem beTo_val (l : List Int) (hb : Bytes l) : beTo l.length (val l) l.length = l := by
  rw [← l.reverse_reverse]
  generalize hr : l.reverse = r
  have hb : Bytes r.reverse := by rw [← hr, List.reverse_reverse]; exact hb
  clear hr
  induction r with
  | nil => rfl
  | cons b r ih =>
    rw [List.reverse_cons] at hb ⊢
    have hb1 : Bytes r.reverse := fun x hx => hb x (List.mem_append_left _ hx)
    have hbb := hb b (by simp)
    have ih := ih hb1
    rw [val_snoc, List.length_append, List.length_singleton, beTo_succ, beTo_up _ _ _ (by omega) _ (Nat.le_refl _), ih]
    congr 2
    rw [show r.reverse.length + 1 - 1 - r.reverse.length = 0 by omega, Nat.pow_zero, Nat.div_one]
    omega
theorem val_lt (l : List Int) (hb : Bytes l) : val l < 256 ^ l.length := by
  rw [← l.reverse_reverse]
  generalize hr : l.reverse = r
  have hb : Bytes r.reverse := by rw [← hr, List.reverse_reverse]; exact hb
  clear hr
  induction r with
  | nil => simp [val]
  | cons b r ih =>
    rw [List.reverse_cons] at hb ⊢
    have ih := ih (fun x hx => hb x (List.mem_append_left _ hx))
    have hbb := hb b (by simp)
    rw [val_snoc, List.length_append, List.length_singleton, Nat.pow_succ]
    omega
/-- What was read stood there. -/
theorem numR_inv (s : ByteArray) (m n : Int) (t : ByteArray) (h : numR s m = (n, t, 0)) : s = encB n ++ t ∧ 0 ≤ n ∧ n ≤ m ∧ n ≤ 18446744073709551615 := by
  unfold numR at h
  split at h
  · simp at h
  · rename_i h0
    have hr := bt_range s 0
    have hb0 : bt s 0 = (bytesOf s).getD 0 0 := bt_get s 0
    have hlen := bytesOf_length s
    have hB := bytesOf_bytes s
    have happ : ∀ (x : Int) (sz : Nat), 0 ≤ x → x ≤ 18446744073709551615 → sz ≤ s.size → (bytesOf s).take sz = encN x → s = encB x ++ s.extract sz s.size := by
      intro x sz h0 h1 hs hx
      apply bytes_ext
      rw [bytesOf_append, bytesOf_extract, ← bytesOf_length, List.take_length]
      unfold encB
      rw [bytesOf_nums _ (encN_bytes h0 h1), ← hx, List.take_append_drop]
    split at h
    · rename_i h1
      unfold numFin at h
      split at h
      · rename_i h2
        simp only [Prod.mk.injEq, and_true] at h
        obtain ⟨rfl, rfl⟩ := h
        refine ⟨happ _ 1 hr.1 (by omega) (by omega) ?_, hr.1, h2, by omega⟩
        unfold encN
        rw [if_pos h1, hb0]
        cases hl : bytesOf s with
        | nil => rw [hl] at hlen; simp at hlen; omega
        | cons a l => simp
      · simp at h
    · rename_i h1
      split at h
      · simp at h
      · rename_i h2
        obtain ⟨k, hk⟩ : ∃ k : Nat, bt s 0 = 247 + (k : Int) := ⟨(bt s 0 - 247).toNat, by omega⟩
        rw [show (bt s 0 - 247).toNat = k by omega] at h h2
        unfold numBig at h
        split at h
        · simp at h
        · rename_i h3
          unfold numFin at h
          split at h
          · rename_i h4
            simp only [Prod.mk.injEq, and_true] at h
            obtain ⟨rfl, rfl⟩ := h
            have hv := beVal_eq s k (by omega)
            have hcl : (((bytesOf s).drop 1).take k).length = k := by rw [List.length_take, List.length_drop]; omega
            have hBy : Bytes (((bytesOf s).drop 1).take k) := fun x hx => hB x (List.mem_of_mem_drop (List.mem_of_mem_take hx))
            have hlt := val_lt _ hBy
            rw [hcl] at hlt
            have hbv := beTo_val _ hBy
            rw [hcl] at hbv
            rw [← hv] at hlt hbv
            have h64 : beVal s k < 2 ^ 64 := by
              have : 256 ^ k ≤ 256 ^ 8 := Nat.pow_le_pow_right (by omega) (by omega)
              have e : (256 : Nat) ^ 8 = 2 ^ 64 := by decide
              omega
            refine ⟨happ _ (k + 1) (by omega) (by omega) (by omega) ?_, by omega, h4, by omega⟩
            unfold encN
            rw [if_neg (by omega), Int.toNat_natCast, show byteLen (beVal s k) = k by omega, hbv, ← hk, hb0]
            cases hl : bytesOf s with
            | nil => rw [hl] at hlen; simp at hlen; omega
            | cons a l => simp
          · simp at h
end Go.Proofs.Ytblabgdkbcphkaa

/- pack.Reader's functions as plain words, and their contracts. Conditions: those that each theorem names. -/
set_option linter.unusedVariables false
set_option linter.unusedSimpArgs false
namespace Go.Proofs.Ytblabgdkbcphkaa
open Go.RowKit Go.Proofs.YtblabgdkbcphkaaW.PrintWords PRd PRt

theorem numR_facts (s : ByteArray) (m : Int) (hm : 0 ≤ m) : 0 ≤ (numR s m).1 ∧ (numR s m).1 ≤ m ∧ (numR s m).2.1.size ≤ s.size ∧ ((numR s m).2.2 = 0 ∨ (numR s m).1 = 0 ∧ (numR s m).2.1 = ByteArray.empty) := by
  have hr := bt_range s 0
  have hfin : ∀ (v : Int) (sz : Nat), 0 ≤ v → 0 ≤ (numFin s m v sz).1 ∧ (numFin s m v sz).1 ≤ m ∧ (numFin s m v sz).2.1.size ≤ s.size ∧ ((numFin s m v sz).2.2 = 0 ∨ (numFin s m v sz).1 = 0 ∧ (numFin s m v sz).2.1 = ByteArray.empty) := by
    intro v sz hv
    unfold numFin
    split
    · refine ⟨hv, by assumption, ?_, .inl rfl⟩
      show (s.extract sz s.size).size ≤ s.size
      rw [ByteArray.size_extract]; omega
    · exact ⟨by decide, hm, Nat.zero_le _, .inr ⟨rfl, rfl⟩⟩
  unfold numR
  split
  · exact ⟨by decide, hm, Nat.zero_le _, .inr ⟨rfl, rfl⟩⟩
  · split
    · exact hfin _ _ hr.1
    · split
      · exact ⟨by decide, hm, Nat.zero_le _, .inr ⟨rfl, rfl⟩⟩
      · unfold numBig
        split
        · exact ⟨by decide, hm, Nat.zero_le _, .inr ⟨rfl, rfl⟩⟩
        · exact hfin _ _ (by omega)
theorem rdNum_facts (s : ByteArray) (er m : Int) (hm : 0 ≤ m) : 0 ≤ (rdNum s er m).1 ∧ (rdNum s er m).1 ≤ m ∧ (rdNum s er m).2.1.size ≤ s.size := by
  unfold rdNum
  split
  · have := numR_facts s m hm; exact ⟨this.1, this.2.1, this.2.2.1⟩
  · exact ⟨Int.le_refl 0, hm, Nat.le_refl _⟩
abbrev M64 : Int := 18446744073709551615
/-- A text of a length, what is left, the error. -/
def rdText (s : ByteArray) (er lo hi : Int) : ByteArray × ByteArray × Int :=
  if (rdNum s er M64).2.2 = 0 then
    (if hi < 0 ∨ hi < (rdNum s er M64).1 ∨ (rdNum s er M64).1 < mx lo 0 then (ByteArray.empty, ByteArray.empty, 3)
     else if ((rdNum s er M64).2.1.size : Int) < (rdNum s er M64).1 then (ByteArray.empty, ByteArray.empty, 4)
     else ((rdNum s er M64).2.1.extract 0 (rdNum s er M64).1.toNat, (rdNum s er M64).2.1.extract (rdNum s er M64).1.toNat (rdNum s er M64).2.1.size, 0))
  else (ByteArray.empty, (rdNum s er M64).2.1, (rdNum s er M64).2.2)
theorem u64_id (x : Int) (h0 : 0 ≤ x) (h1 : x ≤ 9223372036854775807) : IntKind.u64.wrap x = x := by
  have e : IntKind.u64.wrap x = x % 18446744073709551616 := rfl
  rw [e]; omega
theorem mx_range (x : Int) (h : x ≤ 9223372036854775807) : 0 ≤ mx x 0 ∧ mx x 0 ≤ 9223372036854775807 := by unfold mx; split <;> omega
theorem text_f (s : ByteArray) (er lo hi : Int) (hs : s.size ≤ 9223372036854775807) (h1 : lo ≤ 9223372036854775807) (h2 : hi ≤ 9223372036854775807) : pack_Reader_Text.f 1 s er lo hi = some (rdText s er lo hi) := by
  have hf := rdNum_facts s er M64 (by decide)
  have hmx := mx_range lo h1
  unfold pack_Reader_Text.f pack_Reader_Text.j0 pack_Reader_Number.f pack_Reader_Err.f pack_Reader_fail.f rdText
  rw [if_pos (by decide), if_pos (by decide)]
  show Option.bind _ _ = _
  generalize rdNum s er M64 = q at *
  obtain ⟨n, t, e⟩ := q
  simp only [Option.bind_some] at *
  rw [u64_id _ hmx.1 hmx.2, u64_id (t.size : Int) (by omega) (by omega)]
  by_cases he : e = 0
  · subst he
    rw [if_pos rfl, if_pos rfl]
    by_cases hh : hi < 0
    · rw [if_pos hh, if_pos trivial, if_pos (.inl hh)]; rfl
    · rw [if_neg hh, u64_id hi (by omega) h2]
      by_cases hn : n > hi
      · rw [if_pos hn, if_pos trivial, if_pos (.inr (.inl hn))]; rfl
      · rw [if_neg hn]
        by_cases hl : n < mx lo 0
        · rw [if_pos (by simpa using hl), if_pos (.inr (.inr hl))]; rfl
        · rw [if_neg (by simpa using hl), if_neg (show ¬ (hi < 0 ∨ hi < n ∨ n < mx lo 0) by omega)]
          by_cases hg : (t.size : Int) < n
          · rw [if_pos hg, if_pos hg]; rfl
          · rw [if_neg hg, if_neg hg, if_pos (by omega), if_pos (by omega)]
  · rw [if_neg he, if_neg he]; rfl
/-- A stamp's parts, what is left, the error. -/
def rdStamp (s : ByteArray) (er : Int) : Int × Int × ByteArray × Int :=
  let a := rdNum s er 281474976710656
  let b := rdNum a.2.1 a.2.2 4095
  if b.2.2 = 0 then (a.1, b.1, b.2.1, 0) else (0, 0, b.2.1, b.2.2)
theorem stamp_f (s : ByteArray) (er : Int) : pack_Reader_Stamp.f s er = some (rdStamp s er) := by
  unfold pack_Reader_Stamp.f pack_Reader_Number.f pack_Reader_Err.f rdStamp
  rw [if_pos (by decide), if_pos (by decide)]
  simp only [Option.bind_some]
  rw [if_pos (by decide), if_pos (by decide)]
  simp only [Option.bind_some]
  have hf := rdNum_facts (rdNum s er 281474976710656).2.1 (rdNum s er 281474976710656).2.2 4095 (by decide)
  generalize rdNum (rdNum s er 281474976710656).2.1 (rdNum s er 281474976710656).2.2 4095 = q at *
  split
  · rename_i h; rw [h, Int.emod_eq_of_lt hf.1 (by omega)]
  · rfl
/-- A count. -/
def rdCount (s : ByteArray) (er m : Int) : Int × ByteArray × Int := rdNum s er (mx m 0)
theorem count_f (s : ByteArray) (er m : Int) (hm : m ≤ 9223372036854775807) : pack_Reader_Count.f s er m = some (rdCount s er m) := by
  have hmx := mx_range m hm
  unfold pack_Reader_Count.f pack_Reader_Number.f rdCount
  rw [u64_id _ hmx.1 hmx.2, if_pos hmx.1, if_pos (by omega)]
  have hf := rdNum_facts s er (mx m 0) hmx.1
  simp only [Option.bind_some]
  rw [show wrap64 (rdNum s er (mx m 0)).1 = (rdNum s er (mx m 0)).1 from by unfold wrap64; omega]
/-- A flag. -/
def rdFlag (s : ByteArray) (er : Int) : Bool × ByteArray × Int :=
  if er = 0 then
    (if s.size = 0 then (false, ByteArray.empty, 4) else if 1 < bt s 0 then (false, ByteArray.empty, 2) else (decide (bt s 0 = 1), s.extract 1 s.size, 0))
  else (false, s, er)
theorem toList_nil (s : ByteArray) : (s.toList = ([] : List UInt8)) ↔ s.size = 0 := by
  have : s.toList.length = s.size := by rw [ByteArray.toList_eq, data_length]
  rw [← this, List.length_eq_zero_iff]
theorem flag_f (s : ByteArray) (er : Int) : pack_Reader_Flag.f s er = some (rdFlag s er) := by
  unfold pack_Reader_Flag.f PRd.pack_Reader_Err.f PRd.pack_Reader_fail.f rdFlag
  simp only [Option.bind_some, toList_nil]
  by_cases he : er = 0
  · subst he
    rw [if_pos rfl, if_pos rfl]
    by_cases h0 : s.size = 0
    · rw [if_pos h0, if_pos h0]; rfl
    · rw [if_neg h0, if_neg h0, if_pos (by omega)]
      by_cases h1 : 1 < bt s 0
      · rw [if_pos h1, if_pos h1]; rfl
      · rw [if_neg h1, if_neg h1, if_pos (by omega)]; rfl
  · rw [if_neg he, if_neg he]
/-- What End answers. -/
def rdEnd (s : ByteArray) (er : Int) : Int := if er = 0 then (if s.size = 0 then 0 else 2) else er
theorem end_f (s : ByteArray) (er : Int) : pack_Reader_End.f s er = some (rdEnd s er, s, er) := by
  unfold pack_Reader_End.f PRd.pack_Reader_Err.f rdEnd
  simp only [Option.bind_some, toList_nil]
  by_cases he : er = 0
  · subst he
    rw [if_pos rfl, if_pos rfl]
    split <;> rfl
  · rw [if_neg he, if_neg he]

section
variable {w0 w : World} {g : Nat} {s : ByteArray} {er : Int}
/-- What each of the Reader's functions leaves. -/
abbrev Left_ (w0 w w' : World) (g : Nat) (s : ByteArray) (er : Int) : Prop := IsS81 w0 w' g s er ∧ Below w0.heap.size w0 w' ∧ KeepBut w w' g none
theorem rtext (lo hi : Int) (hI : IsS81 w0 w g s er) (hB : Below w0.heap.size w0 w) (hs : s.size ≤ 9223372036854775807) (h1 : lo ≤ 9223372036854775807) (h2 : hi ≤ 9223372036854775807) :
    Calls Try.prog 32 #[.pointer (some ⟨g, 0, none⟩), .int .i64 lo, .int .i64 hi] w fun e w' => e = .returned (.string (rdText s er lo hi).1) ∧ Left_ w0 w w' g (rdText s er lo hi).2.1 (rdText s er lo hi).2.2 :=
  pack_Reader_Text.calls 1 g s er lo hi _ _ _ w0 w hI hB (text_f s er lo hi hs h1 h2)
theorem rstamp (hI : IsS81 w0 w g s er) (hB : Below w0.heap.size w0 w) :
    Calls Try.prog 31 #[.pointer (some ⟨g, 0, none⟩)] w fun e w' => e = .returned (.agg #[.int .u64 (rdStamp s er).1, .int .u32 (rdStamp s er).2.1]) ∧ Left_ w0 w w' g (rdStamp s er).2.2.1 (rdStamp s er).2.2.2 :=
  pack_Reader_Stamp.calls g s er _ _ _ _ w0 w hI hB (stamp_f s er)
theorem rcount (m : Int) (hI : IsS81 w0 w g s er) (hB : Below w0.heap.size w0 w) (hm : m ≤ 9223372036854775807) :
    Calls Try.prog 34 #[.pointer (some ⟨g, 0, none⟩), .int .i64 m] w fun e w' => e = .returned (.int .i64 (rdCount s er m).1) ∧ Left_ w0 w w' g (rdCount s er m).2.1 (rdCount s er m).2.2 :=
  pack_Reader_Count.calls g s er m _ _ _ w0 w hI hB (count_f s er m hm)
theorem rflag (hI : IsS81 w0 w g s er) (hB : Below w0.heap.size w0 w) :
    Calls Try.prog 35 #[.pointer (some ⟨g, 0, none⟩)] w fun e w' => e = .returned (.bool (rdFlag s er).1) ∧ Left_ w0 w w' g (rdFlag s er).2.1 (rdFlag s er).2.2 :=
  pack_Reader_Flag.calls g s er _ _ _ w0 w hI hB (flag_f s er)
theorem rend (hI : IsS81 w0 w g s er) (hB : Below w0.heap.size w0 w) :
    Calls Try.prog 36 #[.pointer (some ⟨g, 0, none⟩)] w fun e w' => e = .returned (.int .i64 (rdEnd s er)) ∧ Left_ w0 w w' g s er :=
  pack_Reader_End.calls g s er _ _ _ w0 w hI hB (end_f s er)
theorem rnew (s : ByteArray) (hB : Below w0.heap.size w0 w) :
    Calls Try.prog 29 #[.string s] w fun e w' => ∃ g, e = .returned (.pointer (some ⟨g, 0, none⟩)) ∧ IsS81 w0 w' g s 0 ∧ Below w0.heap.size w0 w' ∧ Below w.heap.size w w' ∧ w.heap.size ≤ g := by
  refine (pack_NewReader.calls s s 0 w w (Below.refl _ _) rfl).mono ?_
  rintro e w' ⟨g, h1, h2, h3, h4⟩
  exact ⟨g, h1, ⟨h2.1, Nat.le_trans hB.size h2.2⟩, below_step hB h4, h4, h2.2⟩
end
end Go.Proofs.Ytblabgdkbcphkaa

/- What the Reader reads of what the Writer wrote, and the other way round, for all kinds. No program in sight. -/
set_option linter.unusedVariables false
set_option linter.unusedSimpArgs false
namespace Go.Proofs.Ytblabgdkbcphkaa
open Go.RowKit Go.Proofs.YtblabgdkbcphkaaW.PrintWords PRd

theorem extract_both (s : ByteArray) (n : Nat) : s = s.extract 0 n ++ s.extract n s.size := by
  apply bytes_ext
  rw [bytesOf_append, bytesOf_extract, bytesOf_extract, ← bytesOf_length, List.take_length, List.drop_zero, List.take_append_drop]
theorem size0 {s : ByteArray} (h : s.size = 0) : s = ByteArray.empty := by
  apply bytes_ext
  rw [bytesOf_empty]
  exact List.eq_nil_of_length_eq_zero (by rw [bytesOf_length]; exact h)

/-! ### Behind an error nothing is left -/
/-! ### What was read stood there -/
theorem rdNum_inv (s : ByteArray) (er m : Int) (h : (rdNum s er m).2.2 = 0) : er = 0 ∧ s = encB (rdNum s er m).1 ++ (rdNum s er m).2.1 ∧ 0 ≤ (rdNum s er m).1 ∧ (rdNum s er m).1 ≤ m ∧ (rdNum s er m).1 ≤ 18446744073709551615 := by
  unfold rdNum at *
  split at h
  · rename_i h0
    rw [if_pos h0]
    obtain ⟨a, b, c, d⟩ := numR_inv s m (numR s m).1 (numR s m).2.1 (by rw [← h])
    exact ⟨h0, a, b, c, d⟩
  · rename_i h0
    exact absurd h h0
theorem rdText_inv (s : ByteArray) (er lo hi : Int) (h : (rdText s er lo hi).2.2 = 0) : er = 0 ∧ s = encB (rdText s er lo hi).1.size ++ (rdText s er lo hi).1 ++ (rdText s er lo hi).2.1 ∧ ((rdText s er lo hi).1.size : Int) ≤ hi ∧ mx lo 0 ≤ ((rdText s er lo hi).1.size : Int) := by
  unfold rdText at *
  split at h
  · rename_i h0
    rw [if_pos h0]
    obtain ⟨a, b, c, d, e⟩ := rdNum_inv s er M64 h0
    generalize rdNum s er M64 = q at *
    split at h
    · simp at h
    · rename_i h1
      rw [if_neg h1]
      split at h
      · simp at h
      · rename_i h2
        rw [if_neg h2]
        have hsz : ((q.2.1.extract 0 q.1.toNat).size : Int) = q.1 := by rw [ByteArray.size_extract]; omega
        refine ⟨a, ?_, by rw [hsz]; omega, by rw [hsz]; omega⟩
        show s = encB _ ++ _ ++ _
        rw [hsz, ByteArray.append_assoc, ← extract_both]
        exact b
  · exact absurd h (by assumption)
theorem rdStamp_inv (s : ByteArray) (er : Int) (h : (rdStamp s er).2.2.2 = 0) : er = 0 ∧ s = encB (rdStamp s er).1 ++ encB (rdStamp s er).2.1 ++ (rdStamp s er).2.2.1 ∧ 0 ≤ (rdStamp s er).1 ∧ (rdStamp s er).1 ≤ 281474976710656 ∧ 0 ≤ (rdStamp s er).2.1 ∧ (rdStamp s er).2.1 ≤ 4095 := by
  unfold rdStamp at *
  dsimp only at *
  split at h
  · rename_i h0
    rw [if_pos h0]
    obtain ⟨a, b, c, d, e⟩ := rdNum_inv _ _ _ h0
    obtain ⟨a1, b1, c1, d1, e1⟩ := rdNum_inv _ _ _ a
    refine ⟨a1, ?_, c1, d1, c, d⟩
    rw [ByteArray.append_assoc, ← b]
    exact b1
  · exact absurd h (by assumption)
theorem rdFlag_inv (s : ByteArray) (er : Int) (h : (rdFlag s er).2.2 = 0) : er = 0 ∧ s = encF (rdFlag s er).1 ++ (rdFlag s er).2.1 := by
  unfold rdFlag at *
  split at h
  · rename_i h0
    rw [if_pos h0]
    split at h
    · simp at h
    · rename_i h1
      rw [if_neg h1]
      split at h
      · simp at h
      · rename_i h2
        rw [if_neg h2]
        refine ⟨h0, ?_⟩
        have hb0 : bt s 0 = (bytesOf s).getD 0 0 := bt_get s 0
        have hr := bt_range s 0
        have hlen := bytesOf_length s
        apply bytes_ext
        rw [bytesOf_append, bytesOf_extract, ← hlen, List.take_length]
        have : bytesOf (encF (decide (bt s 0 = 1))) = [bt s 0] := by
          unfold encF
          rcases (show bt s 0 = 0 ∨ bt s 0 = 1 by omega) with hq | hq <;> rw [hq] <;> rfl
        show _ = bytesOf (encF _) ++ _
        rw [this, hb0]
        cases hl : bytesOf s with
        | nil => rw [hl] at hlen; simp at hlen; omega
        | cons a l => simp
  · exact absurd h (by assumption)
/-! ### What was written is read -/
end Go.Proofs.Ytblabgdkbcphkaa

/- What a call of a Writer keeps of a Reader, and the other way round. Conditions: those that each theorem names. -/
set_option linter.unusedVariables false
set_option linter.unusedSimpArgs false
namespace Go.Proofs.Ytblabgdkbcphkaa
open Go.RowKit Go.Proofs.YtblabgdkbcphkaaW.PrintWords PRd

end Go.Proofs.Ytblabgdkbcphkaa


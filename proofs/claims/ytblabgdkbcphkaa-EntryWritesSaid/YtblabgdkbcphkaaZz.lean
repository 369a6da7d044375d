/- What Reader.Number reads of what Writer.Number wrote, and the other way round. No program in sight. -/
import Derived.Test.YtblabgdkbcphkaaZr
import Derived.Test.YtblabgdkbcphkaaPRtx
import Derived.Test.YtblabgdkbcphkaaZw
set_option linter.unusedVariables false
set_option linter.unusedSimpArgs false
namespace Go.Proofs.Ytblabgdkbcphkaa
open Go.RowKit Go.Proofs.YtblabgdkbcphkaaW.PrintWords

theorem bytesOf_length (s : ByteArray) : (bytesOf s).length = s.size := by unfold bytesOf; rw [List.length_map]; exact Array.length_toList
theorem bytesOf_extract (s : ByteArray) (a b : Nat) : bytesOf (s.extract a b) = ((bytesOf s).take b).drop a := by
  unfold bytesOf
  rw [ByteArray.data_extract, Array.toList_extract, List.extract_eq_drop_take', List.map_drop, List.map_take]
theorem getD_left (l m : List Int) (d : Int) (i : Nat) (h : i < l.length) : (l ++ m).getD i d = l.getD i d := by
  rw [List.getD_eq_getElem?_getD, List.getD_eq_getElem?_getD, List.getElem?_append_left h]
theorem bytesOf_empty : bytesOf ByteArray.empty = [] := rfl
theorem bt_get (s : ByteArray) (i : Nat) : bt s (i : Int) = (bytesOf s).getD i 0 := by
  unfold bt
  simp only [Int.toNat_natCast]
  split
  · rename_i h
    have hl : i < (bytesOf s).length := by rw [bytesOf_length]; exact h
    rw [List.getD_eq_getElem?_getD, List.getElem?_eq_getElem hl]
    simp [bytesOf]
    rfl
  · rename_i h
    have hl : (bytesOf s).length ≤ i := by rw [bytesOf_length]; omega
    rw [List.getD_eq_getElem?_getD, List.getElem?_eq_none hl]; rfl
/-- The number that bytes make, the greatest first. -/
def val (l : List Int) : Nat := l.foldl (fun a b => a * 256 + b.toNat) 0
theorem val_snoc (l : List Int) (b : Int) : val (l ++ [b]) = val l * 256 + b.toNat := by simp [val]
theorem beVal_eq (s : ByteArray) (c : Nat) (h : c < s.size) : beVal s c = val (((bytesOf s).drop 1).take c) := by
  induction c with
  | zero => simp [beVal, val]
  | succ c ih =>
    have hl : c < ((bytesOf s).drop 1).length := by rw [List.length_drop, bytesOf_length]; omega
    rw [List.take_succ_eq_append_getElem hl, val_snoc, beVal, ih (by omega), bt_get]
    have h2 : c + 1 < (bytesOf s).length := by rw [bytesOf_length]; omega
    rw [List.getD_eq_getElem?_getD, List.getElem?_eq_getElem h2]
    simp [Nat.add_comm]
theorem val_beTo (k x : Nat) (hx : x < 256 ^ k) : ∀ c, c ≤ k → val (beTo k x c) = x / 256 ^ (k - c) := by
  intro c
  induction c with
  | zero => intro _; simp only [beTo, List.range_zero, List.map_nil, val, List.foldl_nil, Nat.sub_zero]; rw [Nat.div_eq_of_lt hx]
  | succ c ih =>
    intro hc
    rw [beTo_succ, val_snoc, ih (by omega), Int.toNat_natCast, show k - 1 - c = k - (c + 1) by omega]
    have e : k - c = (k - (c + 1)) + 1 := by omega
    rw [e, Nat.pow_succ, ← Nat.div_div_eq_div_mul]
    omega
theorem beTo_up (k v b : Nat) (hb : b < 256) (c : Nat) (hc : c ≤ k) : beTo (k + 1) (v * 256 + b) c = beTo k v c := by
  unfold beTo
  apply List.map_congr_left
  intro j hj
  have hj := List.mem_range.1 hj
  have e : k + 1 - 1 - j = (k - 1 - j) + 1 := by omega
  rw [e, Nat.pow_succ, Nat.mul_comm (256 ^ (k - 1 - j)) 256, ← Nat.div_div_eq_div_mul, show (v * 256 + b) / 256 = v by omega]
/-- What is read of a number's bytes and what goes on behind them. -/
theorem numR_enc (n m : Int) (t : ByteArray) (h0 : 0 ≤ n) (h1 : n ≤ 18446744073709551615) : numR (encB n ++ t) m = if n ≤ m then (n, t, 0) else (0, ByteArray.empty, 3) := by
  have hsz := (encB_size h1).1
  have hbo : bytesOf (encB n ++ t) = encN n ++ bytesOf t := by rw [bytesOf_append]; unfold encB; rw [bytesOf_nums _ (encN_bytes h0 h1)]
  have hsize : (encB n ++ t).size = (encN n).length + t.size := by rw [ByteArray.size_append]; unfold encB; rw [size_nums]
  have hext : ∀ sz, sz = (encN n).length → (encB n ++ t).extract sz (encB n ++ t).size = t := by
    intro sz hs
    apply bytes_ext
    rw [bytesOf_extract, ← bytesOf_length, List.take_length, hbo, hs, List.drop_left]
  have hlen := encN_length (n := n) h1
  unfold numR
  rw [if_neg (by omega)]
  have hb0 : bt (encB n ++ t) 0 = (encN n).getD 0 0 := by
    have := bt_get (encB n ++ t) 0
    rw [hbo] at this
    refine this.trans ?_
    rw [getD_left _ _ _ _ (by omega)]
  rw [hb0]
  by_cases hn : n < 248
  · have e : encN n = [n] := by unfold encN; rw [if_pos hn]
    rw [e] at hext
    rw [e]
    simp only [List.getD_cons_zero]
    rw [if_pos hn]
    unfold numFin
    rw [hext 1 rfl]
  · have e : encN n = (247 + (byteLen n.toNat : Int)) :: beTo (byteLen n.toNat) n.toNat (byteLen n.toNat) := by unfold encN; rw [if_neg hn]
    have hr := byteLen_range (x := n.toNat) (by omega) (by omega)
    have hlt := byteLen_lt (x := n.toNat) (by omega) (by omega)
    generalize hk : byteLen n.toNat = k at *
    have hl : (encN n).length = k + 1 := by rw [e, List.length_cons, beTo_length]
    rw [e, List.getD_cons_zero, if_neg (by omega)]
    have hkk : (247 + (k : Int) - 247).toNat = k := by omega
    rw [hkk, if_neg (by omega)]
    unfold numBig
    have hv : beVal (encB n ++ t) k = n.toNat := by
      rw [beVal_eq _ _ (by omega), hbo, e, List.cons_append, List.drop_succ_cons, List.drop_zero, List.take_left' (beTo_length _ _ _), val_beTo _ _ hlt.1 _ (Nat.le_refl _), Nat.sub_self, Nat.pow_zero, Nat.div_one]
    rw [hv, if_neg (by omega)]
    unfold numFin
    rw [hext (k + 1) hl.symm, show (n.toNat : Int) = n by omega]
end Go.Proofs.Ytblabgdkbcphkaa

/- pack.Reader's functions as plain words, and their contracts. Conditions: those that each theorem names. -/
set_option linter.unusedVariables false
set_option linter.unusedSimpArgs false
namespace Go.Proofs.Ytblabgdkbcphkaa
open Go.RowKit Go.Proofs.YtblabgdkbcphkaaW.PrintWords PRd PRt

theorem numR_facts (s : ByteArray) (m : Int) (hm : 0 ≤ m) : 0 ≤ (numR s m).1 ∧ (numR s m).1 ≤ m ∧ (numR s m).2.1.size ≤ s.size ∧ ((numR s m).2.2 = 0 ∨ (numR s m).1 = 0 ∧ (numR s m).2.1 = ByteArray.empty) := by
  have hr := bt_range s 0
  have hfin : ∀ (v : Int) (sz : Nat), 0 ≤ v → 0 ≤ (numFin s m v sz).1 ∧ (numFin s m v sz).1 ≤ m ∧ (numFin s m v sz).2.1.size ≤ s.size ∧ ((numFin s m v sz).2.2 = 0 ∨ (numFin s m v sz).1 = 0 ∧ (numFin s m v sz).2.1 = ByteArray.empty) := by
    intro v sz hv
    unfold numFin
    split
    · refine ⟨hv, by assumption, ?_, .inl rfl⟩
      show (s.extract sz s.size).size ≤ s.size
      rw [ByteArray.size_extract]; omega
    · exact ⟨by decide, hm, Nat.zero_le _, .inr ⟨rfl, rfl⟩⟩
  unfold numR
  split
  · exact ⟨by decide, hm, Nat.zero_le _, .inr ⟨rfl, rfl⟩⟩
  · split
    · exact hfin _ _ hr.1
    · split
      · exact ⟨by decide, hm, Nat.zero_le _, .inr ⟨rfl, rfl⟩⟩
      · unfold numBig
        split
        · exact ⟨by decide, hm, Nat.zero_le _, .inr ⟨rfl, rfl⟩⟩
        · exact hfin _ _ (by omega)
theorem rdNum_facts (s : ByteArray) (er m : Int) (hm : 0 ≤ m) : 0 ≤ (rdNum s er m).1 ∧ (rdNum s er m).1 ≤ m ∧ (rdNum s er m).2.1.size ≤ s.size := by
  unfold rdNum
  split
  · have := numR_facts s m hm; exact ⟨this.1, this.2.1, this.2.2.1⟩
  · exact ⟨Int.le_refl 0, hm, Nat.le_refl _⟩
abbrev M64 : Int := 18446744073709551615
/-- A text of a length, what is left, the error. -/
def rdText (s : ByteArray) (er lo hi : Int) : ByteArray × ByteArray × Int :=
  if (rdNum s er M64).2.2 = 0 then
    (if hi < 0 ∨ hi < (rdNum s er M64).1 ∨ (rdNum s er M64).1 < mx lo 0 then (ByteArray.empty, ByteArray.empty, 3)
     else if ((rdNum s er M64).2.1.size : Int) < (rdNum s er M64).1 then (ByteArray.empty, ByteArray.empty, 4)
     else ((rdNum s er M64).2.1.extract 0 (rdNum s er M64).1.toNat, (rdNum s er M64).2.1.extract (rdNum s er M64).1.toNat (rdNum s er M64).2.1.size, 0))
  else (ByteArray.empty, (rdNum s er M64).2.1, (rdNum s er M64).2.2)
theorem u64_id (x : Int) (h0 : 0 ≤ x) (h1 : x ≤ 9223372036854775807) : IntKind.u64.wrap x = x := by
  have e : IntKind.u64.wrap x = x % 18446744073709551616 := rfl
  rw [e]; omega
theorem mx_range (x : Int) (h : x ≤ 9223372036854775807) : 0 ≤ mx x 0 ∧ mx x 0 ≤ 9223372036854775807 := by unfold mx; split <;> omega
theorem text_f (s : ByteArray) (er lo hi : Int) (hs : s.size ≤ 9223372036854775807) (h1 : lo ≤ 9223372036854775807) (h2 : hi ≤ 9223372036854775807) : pack_Reader_Text.f 1 s er lo hi = some (rdText s er lo hi) := by
  have hf := rdNum_facts s er M64 (by decide)
  have hmx := mx_range lo h1
  unfold pack_Reader_Text.f pack_Reader_Text.j0 pack_Reader_Number.f pack_Reader_Err.f pack_Reader_fail.f rdText
  rw [if_pos (by decide), if_pos (by decide)]
  show Option.bind _ _ = _
  generalize rdNum s er M64 = q at *
  obtain ⟨n, t, e⟩ := q
  simp only [Option.bind_some] at *
  rw [u64_id _ hmx.1 hmx.2, u64_id (t.size : Int) (by omega) (by omega)]
  by_cases he : e = 0
  · subst he
    rw [if_pos rfl, if_pos rfl]
    by_cases hh : hi < 0
    · rw [if_pos hh, if_pos trivial, if_pos (.inl hh)]; rfl
    · rw [if_neg hh, u64_id hi (by omega) h2]
      by_cases hn : n > hi
      · rw [if_pos hn, if_pos trivial, if_pos (.inr (.inl hn))]; rfl
      · rw [if_neg hn]
        by_cases hl : n < mx lo 0
        · rw [if_pos (by simpa using hl), if_pos (.inr (.inr hl))]; rfl
        · rw [if_neg (by simpa using hl), if_neg (show ¬ (hi < 0 ∨ hi < n ∨ n < mx lo 0) by omega)]
          by_cases hg : (t.size : Int) < n
          · rw [if_pos hg, if_pos hg]; rfl
          · rw [if_neg hg, if_neg hg, if_pos (by omega), if_pos (by omega)]
  · rw [if_neg he, if_neg he]; rfl
/-- A stamp's parts, what is left, the error. -/
def rdStamp (s : ByteArray) (er : Int) : Int × Int × ByteArray × Int :=
  let a := rdNum s er 281474976710656
  let b := rdNum a.2.1 a.2.2 4095
  if b.2.2 = 0 then (a.1, b.1, b.2.1, 0) else (0, 0, b.2.1, b.2.2)
theorem stamp_f (s : ByteArray) (er : Int) : pack_Reader_Stamp.f s er = some (rdStamp s er) := by
  unfold pack_Reader_Stamp.f pack_Reader_Number.f pack_Reader_Err.f rdStamp
  rw [if_pos (by decide), if_pos (by decide)]
  simp only [Option.bind_some]
  rw [if_pos (by decide), if_pos (by decide)]
  simp only [Option.bind_some]
  have hf := rdNum_facts (rdNum s er 281474976710656).2.1 (rdNum s er 281474976710656).2.2 4095 (by decide)
  generalize rdNum (rdNum s er 281474976710656).2.1 (rdNum s er 281474976710656).2.2 4095 = q at *
  split
  · rename_i h; rw [h, Int.emod_eq_of_lt hf.1 (by omega)]
  · rfl
/-- A count. -/
def rdCount (s : ByteArray) (er m : Int) : Int × ByteArray × Int := rdNum s er (mx m 0)
theorem count_f (s : ByteArray) (er m : Int) (hm : m ≤ 9223372036854775807) : pack_Reader_Count.f s er m = some (rdCount s er m) := by
  have hmx := mx_range m hm
  unfold pack_Reader_Count.f pack_Reader_Number.f rdCount
  rw [u64_id _ hmx.1 hmx.2, if_pos hmx.1, if_pos (by omega)]
  have hf := rdNum_facts s er (mx m 0) hmx.1
  simp only [Option.bind_some]
  rw [show wrap64 (rdNum s er (mx m 0)).1 = (rdNum s er (mx m 0)).1 from by unfold wrap64; omega]
/-- A flag. -/
def rdFlag (s : ByteArray) (er : Int) : Bool × ByteArray × Int :=
  if er = 0 then
    (if s.size = 0 then (false, ByteArray.empty, 4) else if 1 < bt s 0 then (false, ByteArray.empty, 2) else (decide (bt s 0 = 1), s.extract 1 s.size, 0))
  else (false, s, er)
theorem toList_nil (s : ByteArray) : (s.toList = ([] : List UInt8)) ↔ s.size = 0 := by
  have : s.toList.length = s.size := by rw [ByteArray.toList_eq, data_length]
  rw [← this, List.length_eq_zero_iff]
theorem flag_f (s : ByteArray) (er : Int) : pack_Reader_Flag.f s er = some (rdFlag s er) := by
  unfold pack_Reader_Flag.f PRd.pack_Reader_Err.f PRd.pack_Reader_fail.f rdFlag
  simp only [Option.bind_some, toList_nil]
  by_cases he : er = 0
  · subst he
    rw [if_pos rfl, if_pos rfl]
    by_cases h0 : s.size = 0
    · rw [if_pos h0, if_pos h0]; rfl
    · rw [if_neg h0, if_neg h0, if_pos (by omega)]
      by_cases h1 : 1 < bt s 0
      · rw [if_pos h1, if_pos h1]; rfl
      · rw [if_neg h1, if_neg h1, if_pos (by omega)]; rfl
  · rw [if_neg he, if_neg he]
/-- What End answers. -/
def rdEnd (s : ByteArray) (er : Int) : Int := if er = 0 then (if s.size = 0 then 0 else 2) else er
theorem end_f (s : ByteArray) (er : Int) : pack_Reader_End.f s er = some (rdEnd s er, s, er) := by
  unfold pack_Reader_End.f PRd.pack_Reader_Err.f rdEnd
  simp only [Option.bind_some, toList_nil]
  by_cases he : er = 0
  · subst he
    rw [if_pos rfl, if_pos rfl]
    split <;> rfl
  · rw [if_neg he, if_neg he]

section
variable {w0 w : World} {g : Nat} {s : ByteArray} {er : Int}
/-- What each of the Reader's functions leaves. -/
abbrev Left_ (w0 w w' : World) (g : Nat) (s : ByteArray) (er : Int) : Prop := IsS81 w0 w' g s er ∧ Below w0.heap.size w0 w' ∧ KeepBut w w' g none
theorem rtext (lo hi : Int) (hI : IsS81 w0 w g s er) (hB : Below w0.heap.size w0 w) (hs : s.size ≤ 9223372036854775807) (h1 : lo ≤ 9223372036854775807) (h2 : hi ≤ 9223372036854775807) :
    Calls Try.prog 32 #[.pointer (some ⟨g, 0, none⟩), .int .i64 lo, .int .i64 hi] w fun e w' => e = .returned (.string (rdText s er lo hi).1) ∧ Left_ w0 w w' g (rdText s er lo hi).2.1 (rdText s er lo hi).2.2 :=
  pack_Reader_Text.calls 1 g s er lo hi _ _ _ w0 w hI hB (text_f s er lo hi hs h1 h2)
theorem rstamp (hI : IsS81 w0 w g s er) (hB : Below w0.heap.size w0 w) :
    Calls Try.prog 31 #[.pointer (some ⟨g, 0, none⟩)] w fun e w' => e = .returned (.agg #[.int .u64 (rdStamp s er).1, .int .u32 (rdStamp s er).2.1]) ∧ Left_ w0 w w' g (rdStamp s er).2.2.1 (rdStamp s er).2.2.2 :=
  pack_Reader_Stamp.calls g s er _ _ _ _ w0 w hI hB (stamp_f s er)
theorem rcount (m : Int) (hI : IsS81 w0 w g s er) (hB : Below w0.heap.size w0 w) (hm : m ≤ 9223372036854775807) :
    Calls Try.prog 34 #[.pointer (some ⟨g, 0, none⟩), .int .i64 m] w fun e w' => e = .returned (.int .i64 (rdCount s er m).1) ∧ Left_ w0 w w' g (rdCount s er m).2.1 (rdCount s er m).2.2 :=
  pack_Reader_Count.calls g s er m _ _ _ w0 w hI hB (count_f s er m hm)
theorem rflag (hI : IsS81 w0 w g s er) (hB : Below w0.heap.size w0 w) :
    Calls Try.prog 35 #[.pointer (some ⟨g, 0, none⟩)] w fun e w' => e = .returned (.bool (rdFlag s er).1) ∧ Left_ w0 w w' g (rdFlag s er).2.1 (rdFlag s er).2.2 :=
  pack_Reader_Flag.calls g s er _ _ _ w0 w hI hB (flag_f s er)
theorem rend (hI : IsS81 w0 w g s er) (hB : Below w0.heap.size w0 w) :
    Calls Try.prog 36 #[.pointer (some ⟨g, 0, none⟩)] w fun e w' => e = .returned (.int .i64 (rdEnd s er)) ∧ Left_ w0 w w' g s er :=
  pack_Reader_End.calls g s er _ _ _ w0 w hI hB (end_f s er)
theorem rnew (s : ByteArray) (hB : Below w0.heap.size w0 w) :
    Calls Try.prog 29 #[.string s] w fun e w' => ∃ g, e = .returned (.pointer (some ⟨g, 0, none⟩)) ∧ IsS81 w0 w' g s 0 ∧ Below w0.heap.size w0 w' ∧ Below w.heap.size w w' ∧ w.heap.size ≤ g := by
  refine (pack_NewReader.calls s s 0 w w (Below.refl _ _) rfl).mono ?_
  rintro e w' ⟨g, h1, h2, h3, h4⟩
  exact ⟨g, h1, ⟨h2.1, Nat.le_trans hB.size h2.2⟩, below_step hB h4, h4, h2.2⟩
end
end Go.Proofs.Ytblabgdkbcphkaa

/- What the Reader reads of what the Writer wrote, and the other way round, for all kinds. No program in sight. -/
set_option linter.unusedVariables false
set_option linter.unusedSimpArgs false
namespace Go.Proofs.Ytblabgdkbcphkaa
open Go.RowKit Go.Proofs.YtblabgdkbcphkaaW.PrintWords PRd

theorem extract_left (a b : ByteArray) (n : Nat) (h : n = a.size) : (a ++ b).extract 0 n = a := by
  apply bytes_ext
  rw [bytesOf_extract, bytesOf_append, List.drop_zero, List.take_left' (by rw [bytesOf_length, h])]
theorem extract_right (a b : ByteArray) (n m : Nat) (h : n = a.size) (hm : m = a.size + b.size) : (a ++ b).extract n m = b := by
  apply bytes_ext
  rw [bytesOf_extract, bytesOf_append, List.take_of_length_le (by rw [List.length_append, bytesOf_length, bytesOf_length]; omega), List.drop_left' (by rw [bytesOf_length, h])]
theorem size0 {s : ByteArray} (h : s.size = 0) : s = ByteArray.empty := by
  apply bytes_ext
  rw [bytesOf_empty]
  exact List.eq_nil_of_length_eq_zero (by rw [bytesOf_length]; exact h)

/-! ### Behind an error nothing is left -/
/-! ### What was read stood there -/
/-! ### What was written is read -/
theorem rdNum_enc (n m : Int) (t : ByteArray) (h0 : 0 ≤ n) (h1 : n ≤ 18446744073709551615) (hm : n ≤ m) : rdNum (encB n ++ t) 0 m = (n, t, 0) := by
  unfold rdNum
  rw [if_pos rfl, numR_enc n m t h0 h1, if_pos hm]
theorem rdText_enc (x t : ByteArray) (lo hi : Int) (hx : x.size ≤ 9223372036854775807) (hl : lo ≤ x.size) (hh : (x.size : Int) ≤ hi) : rdText (encB x.size ++ x ++ t) 0 lo hi = (x, t, 0) := by
  unfold rdText
  rw [ByteArray.append_assoc, rdNum_enc _ _ _ (by omega) (by omega) (by show (x.size : Int) ≤ 18446744073709551615; omega)]
  dsimp only
  have hm : mx lo 0 ≤ (x.size : Int) := by unfold mx; split <;> omega
  rw [if_pos rfl, if_neg (by omega), ByteArray.size_append, if_neg (by omega), Int.toNat_natCast, extract_left _ _ _ rfl, extract_right _ _ _ _ rfl rfl]
theorem rdStamp_enc (p l : Int) (t : ByteArray) (h0 : 0 ≤ p) (h1 : p ≤ 281474976710656) (h2 : 0 ≤ l) (h3 : l ≤ 4095) : rdStamp (encB p ++ encB l ++ t) 0 = (p, l, t, 0) := by
  unfold rdStamp
  rw [ByteArray.append_assoc, rdNum_enc _ _ _ h0 (by omega) h1]
  dsimp only
  rw [rdNum_enc _ _ _ h2 (by omega) h3, if_pos rfl]
theorem rdFlag_enc (b : Bool) (t : ByteArray) : rdFlag (encF b ++ t) 0 = (b, t, 0) := by
  unfold rdFlag
  have h1 := encF_size b
  have hb : bt (encF b ++ t) 0 = flagN b := by
    have := bt_get (encF b ++ t) 0
    refine this.trans ?_
    rw [bytesOf_append]
    cases b <;> rfl
  rw [if_pos rfl, hb, if_neg (by rw [ByteArray.size_append]; omega), if_neg (by cases b <;> decide), extract_right _ _ _ _ h1.symm (by rw [ByteArray.size_append])]
  cases b <;> rfl
end Go.Proofs.Ytblabgdkbcphkaa

/- What a call of a Writer keeps of a Reader, and the other way round. Conditions: those that each theorem names. -/
set_option linter.unusedVariables false
set_option linter.unusedSimpArgs false
namespace Go.Proofs.Ytblabgdkbcphkaa
open Go.RowKit Go.Proofs.YtblabgdkbcphkaaW.PrintWords PRd

end Go.Proofs.Ytblabgdkbcphkaa


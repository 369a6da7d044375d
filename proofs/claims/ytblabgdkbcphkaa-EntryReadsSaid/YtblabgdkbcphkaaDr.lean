/- The document's numbers, texts and readers of layer 2 are pack's. Conditions: those that each theorem names. -/
import Derived.Test.YtblabgdkbcphkaaZz
import Derived.Test.YtblabgdkbcphkaaPDrx
set_option linter.unusedVariables false
set_option linter.unusedSimpArgs false
namespace Go.Proofs.Ytblabgdkbcphkaa
open Go.RowKit Go.Proofs.YtblabgdkbcphkaaW.PrintWords PDr

theorem bl_zero : byteLen 0 = 0 := by decide
theorem bl_div (m : Nat) (h64 : m < 2 ^ 64) (h : 1 ≤ m) : byteLen m = byteLen (m / 256) + 1 := by
  obtain ⟨h1, h2⟩ := byteLen_lt h64 h
  obtain ⟨k, hk⟩ : ∃ k, byteLen m = k + 1 := ⟨byteLen m - 1, by have := byteLen_range h64 h; omega⟩
  rw [hk] at h1 h2 ⊢
  have h8 := (byteLen_range h64 h).2
  rw [Nat.add_sub_cancel] at h2
  rcases k with _ | k
  · have : m / 256 = 0 := by simp at h1; omega
    rw [this, bl_zero]
  · rw [byteLen_eq (x := m / 256) (k := k) (by omega)]
    · rw [Nat.le_div_iff_mul_le (by decide)]; rw [Nat.pow_succ] at h2; exact h2
    · rw [Nat.div_lt_iff_lt_mul (by decide)]; rw [Nat.pow_succ] at h1; exact h1
theorem beTo_snoc (m k : Nat) : beTo (k + 1) m (k + 1) = beTo k (m / 256) k ++ [((m % 256 : Nat) : Int)] := by
  rw [beTo_succ]
  congr 1
  · have h := beTo_up k (m / 256) (m % 256) (Nat.mod_lt _ (by decide)) k (Nat.le_refl _)
    rw [show m / 256 * 256 + m % 256 = m by omega] at h
    exact h
  · rw [show k + 1 - 1 - k = 0 by omega, Nat.pow_zero, Nat.div_one]
theorem ref_l0 : ∀ (k : Nat) (m : Nat) (xs : List Int), m < 2 ^ 64 → byteLen m < k → byteLen m + xs.length ≤ 8 →
    dovecoteref02_Number.l0 k xs (m : Int) = some (strOfNums [247 + ((byteLen m + xs.length : Nat) : Int)] ++ strOfNums (beTo (byteLen m) m (byteLen m) ++ xs)) := by
  intro k
  induction k with
  | zero => intro m xs _ h _; omega
  | succ k ih =>
    intro m xs hm hk hx
    unfold dovecoteref02_Number.l0
    rcases (show m = 0 ∨ 1 ≤ m by omega) with h0 | h0
    · subst h0
      rw [if_neg (by simp), bl_zero] at *
      simp only [Option.bind_some]
      have e : wrap64 (247 + (xs.length : Int)) % 256 = 247 + (xs.length : Int) := by unfold wrap64; omega
      rw [if_pos (by rw [size_nums, size_nums]; simp; omega), e]
      simp [beTo]
    · have hd := bl_div m hm h0
      rw [if_pos (by omega)]
      simp only [Option.bind_some]
      have e1 : Int.tmod (m : Int) 256 % 256 = ((m % 256 : Nat) : Int) := by rw [Int.tmod_eq_emod_of_nonneg (by omega)]; omega
      have e2 : IntKind.u64.wrap (Int.tdiv (m : Int) 256) = ((m / 256 : Nat) : Int) := by
        rw [Int.tdiv_eq_ediv_of_nonneg (by omega), u64_id _ (by omega) (by omega)]; omega
      rw [e1, e2, if_pos (by simp; omega), ih (m / 256) _ (by omega) (by omega) (by simp; omega), hd, beTo_snoc]
      congr 3
      · simp; omega
      · simp
theorem number_fk (k : Nat) (hk : 9 ≤ k) (n : Int) (h0 : 0 ≤ n) (h1 : n ≤ 18446744073709551615) : dovecoteref02_Number.f k n = some (encB n) := by
  unfold dovecoteref02_Number.f encB encN
  by_cases h : n < 248
  · rw [if_pos h, if_pos h, Int.emod_eq_of_lt h0 (by omega)]
  · rw [if_neg h, if_neg h]
    have hr := byteLen_range (x := n.toNat) (by omega) (by omega)
    have := ref_l0 k n.toNat [] (by omega) (by omega) (by simp; omega)
    rw [show ((n.toNat : Nat) : Int) = n by omega] at this
    rw [this, ← strOfNums_append]
    simp
theorem encB_len (n : Int) (h0 : 0 ≤ n) : (encB n).size = if n < 248 then 1 else 1 + byteLen n.toNat := by
  unfold encB encN
  rw [size_nums]
  split
  · simp
  · simp [beTo_length]; omega
/-! The reader's Number. -/
theorem refnum_l0 (s : ByteArray) (most : Int) (kk : Nat) (h1 : 1 ≤ kk) (h8 : kk ≤ 8) (hs : kk < s.size) (hz : s.size ≤ 9223372036854775807) : ∀ (d c k : Nat), c + d = kk → 10 + d ≤ k →
    dovecoteref02_Reader_Number.l0 k most (beVal s c : Int) (kk : Int) ((c : Int) + 1) s 0 = some (numBig s most kk) := by
  intro d
  induction d with
  | zero =>
    intro c k hc hk
    obtain rfl : c = kk := by omega
    obtain ⟨k, rfl⟩ : ∃ j, k = j + 1 := ⟨k - 1, by omega⟩
    have hb := beVal_lt s c
    have hp : 256 ^ c ≤ 256 ^ 8 := Nat.pow_le_pow_right (by decide) h8
    have hb2 : beVal s c < 18446744073709551616 := Nat.lt_of_lt_of_le hb (Nat.le_trans hp (by decide))
    rw [dovecoteref02_Reader_Number.l0, if_neg (by omega), number_fk k (by omega) _ (by omega) (by omega), Option.bind_some]
    have hw : wrap64 (1 + (c : Int)) = (c : Int) + 1 := by unfold wrap64; omega
    have hl := encB_len (beVal s c : Int) (by omega)
    rw [Int.toNat_natCast] at hl
    unfold numBig numFin dovecoteref02_Reader_fail.f
    rw [hw]
    by_cases hq : beVal s c < 248 ∨ byteLen (beVal s c) ≠ c
    · rw [if_pos hq, if_neg]
      · rfl
      · rw [hl]
        rcases hq with h | h
        · rw [if_pos (by omega)]; omega
        · split
          · omega
          · omega
    · rw [if_neg hq, if_pos]
      · by_cases hm : (beVal s c : Int) > most
        · rw [if_pos hm, if_neg (by omega)]; rfl
        · rw [if_neg hm, if_pos (by omega), if_pos (by omega), if_pos (by omega)]
          rw [show ((c : Int) + 1).toNat = c + 1 by omega]
      · rw [hl, if_neg (by omega)]; omega
  | succ d ih =>
    intro c k hc hk
    obtain ⟨k, rfl⟩ : ∃ j, k = j + 1 := ⟨k - 1, by omega⟩
    have hb := beVal_lt s c
    have hp : 256 ^ c ≤ 256 ^ 7 := Nat.pow_le_pow_right (by decide) (by omega)
    have hb2 : beVal s c < 72057594037927936 := Nat.lt_of_lt_of_le hb (Nat.le_trans hp (by decide))
    have hr := bt_range s ((c + 1 : Nat) : Int)
    have q1 : (c : Int) + 1 ≤ (kk : Int) := by omega
    have q2 : 0 ≤ (c : Int) + 1 := by omega
    have q3 : (c : Int) + 1 < (s.size : Int) := by omega
    have e1 : IntKind.u64.wrap ((beVal s c : Int) * 256) = (beVal s c : Int) * 256 := by
      show _ % 18446744073709551616 = _
      omega
    have e2 : IntKind.u64.wrap (bt s ((c : Int) + 1)) = bt s ((c + 1 : Nat) : Int) := by
      rw [show ((c + 1 : Nat) : Int) = (c : Int) + 1 by omega] at hr ⊢
      exact u64_id _ hr.1 (by omega)
    have e3 : IntKind.u64.wrap ((beVal s c : Int) * 256 + bt s ((c + 1 : Nat) : Int)) = (beVal s (c + 1) : Int) := by
      show _ % 18446744073709551616 = _
      simp only [beVal]
      omega
    have e4 : wrap64 ((c : Int) + 1 + 1) = ((c + 1 : Nat) : Int) + 1 := by unfold wrap64; omega
    rw [dovecoteref02_Reader_Number.l0, if_pos q1, if_pos q2, if_pos q3, e1, e2, e3, e4]
    exact ih (c + 1) k (by omega) (by omega)
theorem dnum_f (k : Nat) (hk : 20 ≤ k) (s : ByteArray) (er most : Int) (h0 : 0 ≤ most) (hz : s.size ≤ 9223372036854775807) : dovecoteref02_Reader_Number.f k s er most = some (rdNum s er most) := by
  unfold dovecoteref02_Reader_Number.f rdNum
  by_cases he : er = 0
  · subst he
    rw [if_pos rfl, if_pos rfl]
    have hr := bt_range s 0
    by_cases h : s.size = 0
    · rw [if_pos ((toList_nil s).2 h)]
      unfold numR dovecoteref02_Reader_fail.f
      rw [if_pos h]; rfl
    · rw [if_neg (fun e => h ((toList_nil s).1 e)), if_pos (by omega)]
      have e1 : IntKind.u64.wrap (bt s 0) = bt s 0 := u64_id _ hr.1 (by omega)
      have e2 : wrap64 (wrap64 (bt s 0) - 247) = bt s 0 - 247 := by unfold wrap64; omega
      rw [e1, e2]
      unfold numR
      rw [if_neg h]
      by_cases hq : bt s 0 > 247
      · rw [if_pos hq, if_neg (show ¬ bt s 0 < 248 by omega)]
        have e3 : wrap64 (1 + (bt s 0 - 247)) = bt s 0 - 246 := by unfold wrap64; omega
        rw [e3]
        by_cases hc : (s.size : Int) < bt s 0 - 246
        · rw [if_pos hc, if_pos (by omega)]
          unfold dovecoteref02_Reader_fail.f; rfl
        · rw [if_neg hc, if_neg (by omega)]
          have := refnum_l0 s most (bt s 0 - 247).toNat (by omega) (by omega) (by omega) hz (bt s 0 - 247).toNat 0 k (by omega) (by omega)
          rw [Int.toNat_of_nonneg (by omega)] at this
          simpa [beVal] using this
      · rw [if_neg hq, if_pos (show bt s 0 < 248 by omega)]
        unfold numFin
        by_cases hm : bt s 0 > most
        · rw [if_pos hm, if_neg (by omega)]
          unfold dovecoteref02_Reader_fail.f; rfl
        · rw [if_neg hm, if_pos (by omega), if_pos (by omega)]
  · rw [if_neg he, if_neg he]
theorem dtext_f (k : Nat) (hk : 20 ≤ k) (s : ByteArray) (er lo hi : Int) (hs : s.size ≤ 9223372036854775807) (h1 : lo ≤ 9223372036854775807) (h2 : hi ≤ 9223372036854775807) : dovecoteref02_Reader_Text.f k s er lo hi = some (rdText s er lo hi) := by
  obtain ⟨k, rfl⟩ : ∃ j, k = j + 1 := ⟨k - 1, by omega⟩
  have hf := rdNum_facts s er M64 (by decide)
  have hmx : mx lo 0 = if lo > 0 then lo else 0 := by unfold mx; split <;> split <;> omega
  unfold dovecoteref02_Reader_Text.f rdText
  rw [dnum_f (k + 1) hk s er _ (by decide) hs, show (18446744073709551615 : Int) = M64 from rfl]
  generalize rdNum s er M64 = q at *
  obtain ⟨n, t, e⟩ := q
  simp only [Option.bind_some] at *
  have hj : ∀ b : Bool, dovecoteref02_Reader_Text.j0 (k + 1) n b t 0 = if b = true then some (ByteArray.empty, ByteArray.empty, 3) else if (t.size : Int) < n then some (ByteArray.empty, ByteArray.empty, 4) else some (t.extract 0 n.toNat, t.extract n.toNat t.size, 0) := by
    intro b
    rw [dovecoteref02_Reader_Text.j0]
    unfold dovecoteref02_Reader_fail.f
    rw [u64_id (t.size : Int) (by omega) (by omega)]
    by_cases hb : b = true
    · rw [if_pos hb, if_pos hb]; rfl
    · rw [if_neg hb, if_neg hb]
      by_cases hg : (t.size : Int) < n
      · rw [if_pos hg, if_pos hg]; rfl
      · rw [if_neg hg, if_neg hg, if_pos (by omega), if_pos (by omega)]
  by_cases he : e = 0
  · subst he
    rw [if_pos rfl, if_pos rfl]
    by_cases hh : hi < 0
    · rw [if_pos hh, if_pos (.inl hh), hj, if_pos rfl]
    · rw [if_neg hh, u64_id hi (by omega) h2]
      by_cases hn : n > hi
      · rw [if_pos hn, if_pos (.inr (.inl hn)), hj, if_pos rfl]
      · rw [if_neg hn]
        by_cases hl : lo > 0
        · rw [if_pos hl, u64_id lo (by omega) h1, hj]
          rw [if_pos hl] at hmx
          by_cases hlt : n < lo
          · rw [if_pos (by simpa using hlt), if_pos (.inr (.inr (by omega)))]
          · rw [if_neg (by simpa using hlt), if_neg (show ¬ (hi < 0 ∨ hi < n ∨ n < mx lo 0) by omega)]
            split <;> rfl
        · rw [if_neg hl, hj, if_neg (by decide)]
          rw [if_neg hl] at hmx
          rw [if_neg (show ¬ (hi < 0 ∨ hi < n ∨ n < mx lo 0) by omega)]
          split <;> rfl
  · rw [if_neg he, if_neg he]; rfl
theorem dstamp_f (k : Nat) (hk : 20 ≤ k) (s : ByteArray) (er : Int) (hs : s.size ≤ 9223372036854775807) : dovecoteref02_Reader_Stamp.f k s er = some (rdStamp s er) := by
  have h1 := rdNum_facts s er 281474976710656 (by decide)
  have hf := rdNum_facts (rdNum s er 281474976710656).2.1 (rdNum s er 281474976710656).2.2 4095 (by decide)
  unfold dovecoteref02_Reader_Stamp.f rdStamp
  rw [dnum_f k hk _ _ _ (by decide) hs, Option.bind_some, dnum_f k hk _ _ _ (by decide) (by omega), Option.bind_some]
  dsimp only
  generalize rdNum (rdNum s er 281474976710656).2.1 (rdNum s er 281474976710656).2.2 4095 = q at *
  split
  · rename_i h; rw [h, Int.emod_eq_of_lt hf.1 (by omega)]
  · rfl
theorem dcount_f (k : Nat) (hk : 20 ≤ k) (s : ByteArray) (er m : Int) (hm : m ≤ 9223372036854775807) (hs : s.size ≤ 9223372036854775807) : dovecoteref02_Reader_Count.f k s er m = some (rdCount s er m) := by
  unfold dovecoteref02_Reader_Count.f rdCount mx
  by_cases h : m < 0
  · have hf := rdNum_facts s er 0 (by decide)
    rw [if_pos h, dnum_f k hk _ _ _ (by decide) hs, Option.bind_some, if_pos h, show wrap64 (rdNum s er 0).1 = (rdNum s er 0).1 from by unfold wrap64; omega]
  · rw [if_neg h, u64_id m (by omega) hm, dnum_f k hk _ _ _ (by omega) hs, Option.bind_some]
    have hf := rdNum_facts s er m (by omega)
    rw [show wrap64 (rdNum s er m).1 = (rdNum s er m).1 from by unfold wrap64; omega]
    rw [if_neg h]
theorem dflag_f (s : ByteArray) (er : Int) : dovecoteref02_Reader_Flag.f s er = some (rdFlag s er) := by
  unfold dovecoteref02_Reader_Flag.f dovecoteref02_Reader_fail.f rdFlag
  have hr := bt_range s 0
  by_cases he : er = 0
  · subst he
    rw [if_pos rfl, if_pos rfl]
    by_cases h : s.size = 0
    · rw [if_pos ((toList_nil s).2 h), if_pos h]; rfl
    · rw [if_neg (fun e => h ((toList_nil s).1 e)), if_neg h, if_pos (by omega)]
      by_cases h1 : bt s 0 > 1
      · rw [if_pos h1, if_pos h1]; rfl
      · rw [if_neg h1, if_neg h1, if_pos (by omega)]
        rfl
  · rw [if_neg he, if_neg he]
theorem dend_f (s : ByteArray) (er : Int) : dovecoteref02_Reader_End.f s er = some (rdEnd s er, s, er) := by
  unfold dovecoteref02_Reader_End.f rdEnd
  by_cases he : er = 0
  · subst he
    by_cases h : s.size = 0
    · have := (toList_nil s).2 h
      simp [this, h]
    · have : ¬ s.toList = ([] : List UInt8) := fun e => h ((toList_nil s).1 e)
      simp [this, h]
  · simp [he]
end Go.Proofs.Ytblabgdkbcphkaa

/- The document's sum, frames, Reader and Next are the program's. Conditions: those that each theorem names. -/
import Derived.Test.YtapgmedfedcliaaAx
import Derived.Deep.RegionHeld3
set_option linter.unusedVariables false
set_option linter.unusedSimpArgs false
namespace Go.Proofs.Ytapgmedfedcliaa
open Go.RowKit Go.Proofs.YtapgmedfedcliaaW.PrintWords PRd PFr

theorem ref_step (k : Nat) (s : ByteArray) (x : Nat) (hx : x < 4294967296) (i j : Int) (hj : 0 ≤ j) (h8 : j < 8) : dovecoteref03_Sum.l1 (k + 1) s (x : Int) i j = dovecoteref03_Sum.l1 k s ((sh x : Nat) : Int) i (j + 1) := by
  conv => lhs; unfold dovecoteref03_Sum.l1
  rw [if_pos h8]
  have e1 : Int.tmod (x : Int) 2 = ((x % 2 : Nat) : Int) := by rw [Int.tmod_eq_emod_of_nonneg (by omega)]; omega
  have e2 : (Int.tdiv (x : Int) 2) % 4294967296 = ((x / 2 : Nat) : Int) := by rw [Int.tdiv_eq_ediv_of_nonneg (by omega)]; omega
  have e3 : wrap64 (j + 1) = j + 1 := by unfold wrap64; omega
  rw [e1, e2, e3]
  by_cases h : x % 2 = 1
  · have : sh x = (x / 2) ^^^ 2197175160 := by unfold sh; rw [h]
    rw [if_pos (by omega), show (2197175160 : Int) = ((2197175160 : Nat) : Int) from rfl, xor_u32 _ _ (by omega) (by omega), this]
  · have h0 : x % 2 = 0 := by omega
    have : sh x = x / 2 := by unfold sh; rw [h0, Nat.mul_zero, Nat.xor_zero]
    rw [if_neg (by omega), this]
theorem ref_eight (k : Nat) (s : ByteArray) (x : Nat) (hx : x < 4294967296) (i : Int) (hi : 0 ≤ i) (hi2 : i < 9223372036854775807) : dovecoteref03_Sum.l1 (k + 9) s (x : Int) i 0 = dovecoteref03_Sum.l0 k s ((sh4 (sh4 x) : Nat) : Int) (i + 1) := by
  have h1 := sh_lt hx
  have h2 := sh_lt h1
  have h3 := sh_lt h2
  have h4 := sh_lt h3
  have h5 := sh_lt h4
  have h6 := sh_lt h5
  have h7 := sh_lt h6
  rw [ref_step (k + 8) s x hx i 0 (by decide) (by decide), ref_step (k + 7) s _ h1 i _ (by decide) (by decide), ref_step (k + 6) s _ h2 i _ (by decide) (by decide), ref_step (k + 5) s _ h3 i _ (by decide) (by decide), ref_step (k + 4) s _ h4 i _ (by decide) (by decide), ref_step (k + 3) s _ h5 i _ (by decide) (by decide), ref_step (k + 2) s _ h6 i _ (by decide) (by decide), ref_step (k + 1) s _ h7 i _ (by decide) (by decide)]
  conv => lhs; unfold dovecoteref03_Sum.l1
  rw [if_neg (by decide), show wrap64 (i + 1) = i + 1 by unfold wrap64; omega]
  rfl
theorem ref_byte (k : Nat) (s : ByteArray) (x : Nat) (hx : x < 4294967296) (i : Nat) (hi : i < s.size) (hs : s.size ≤ 9223372036854775807) : dovecoteref03_Sum.l0 (k + 10) s (x : Int) (i : Int) = dovecoteref03_Sum.l0 k s ((byteStep x ((natsOf s)[i]'(by rw [natsOf_length]; exact hi)) : Nat) : Int) ((i + 1 : Nat) : Int) := by
  conv => lhs; unfold dovecoteref03_Sum.l0
  have hil : i < (natsOf s).length := by rw [natsOf_length]; exact hi
  have hb := natsOf_lt s _ (List.getElem_mem hil)
  rw [if_pos (by omega), if_pos (by omega), bt_nat s i hi]
  generalize (natsOf s)[i] = b at *
  rw [show ((b : Nat) : Int) % 4294967296 = ((b : Nat) : Int) by omega, xor_u32 _ _ hx (by omega), ref_eight k s _ (xor_lt hx (by omega)) _ (by omega) (by omega), byteStep_eq]
  rfl
theorem ref_sum_from (s : ByteArray) (hs : s.size ≤ 9223372036854775807) : ∀ (n i : Nat), i + n = s.size → dovecoteref03_Sum.l0 (10 * n + 1) s ((sumS 4294967295 ((natsOf s).take i) : Nat) : Int) (i : Int) = some ((sumN s : Nat) : Int) := by
  intro n
  induction n with
  | zero =>
    intro i h
    have hi : i = s.size := by omega
    subst hi
    unfold dovecoteref03_Sum.l0
    have hl := sumS_lt (x := 4294967295) (by decide) (natsOf s) (natsOf_lt s)
    rw [if_neg (by omega), ← natsOf_length, List.take_length, show (4294967295 : Int) = ((4294967295 : Nat) : Int) from rfl, xor_u32 _ _ hl (by decide)]
    rfl
  | succ n ih =>
    intro i h
    have hi : i < s.size := by omega
    have hil : i < (natsOf s).length := by rw [natsOf_length]; exact hi
    rw [show 10 * (n + 1) + 1 = (10 * n + 1) + 10 by omega, ref_byte _ s _ (sumS_lt (by decide) _ (fun b hb => natsOf_lt s b (List.mem_of_mem_take hb))) i hi hs, ← ih (i + 1) (by omega), List.take_succ_eq_append_getElem hil, sumS_snoc]
theorem ref_sum (s : ByteArray) (hs : s.size ≤ 9223372036854775807) : dovecoteref03_Sum.f (10 * s.size + 1) s = some ((sumN s : Nat) : Int) := by
  have := ref_sum_from s hs s.size 0 (by omega)
  rw [List.take_zero] at this
  exact this
theorem ref_four (x : Nat) (hx : x < 4294967296) : dovecoteref03_four.f (x : Int) = some (four x) := by
  unfold dovecoteref03_four.f four
  have e : ∀ d : Int, 0 < d → (Int.tdiv (x : Int) d) % 4294967296 = (x : Int) / d := by
    intro d hd
    rw [Int.tdiv_eq_ediv_of_nonneg (by omega)]
    have h1 : (0 : Int) ≤ (x : Int) / d := Int.ediv_nonneg (by omega) (by omega)
    have h2 : (x : Int) / d ≤ (x : Int) := Int.ediv_le_self _ (by omega)
    omega
  rw [e 256 (by decide), e 65536 (by decide), e 16777216 (by decide)]
theorem ref_wrap (p : ByteArray) : ∃ k, dovecoteref03_Wrap.f k p = some (wrp p) := by
  refine ⟨10 * (encT p).size + 1, ?_⟩
  unfold dovecoteref03_Wrap.f wrp
  by_cases h : p.size > 16384
  · rw [if_pos (by omega), if_pos h]
  · have hs := encT_size p (by omega)
    rw [if_neg (by omega), if_neg (by omega)]
    rw [show dovecoteref02_Text.f p = some (encT p) from if_pos (by omega)]
    simp only [Option.bind_some]
    rw [if_pos (by omega), ref_sum _ (by omega)]
    simp only [Option.bind_some]
    rw [ref_four _ (sumN_lt _)]
    simp only [Option.bind_some]
    have s1 : ((⟨#[215]⟩ : ByteArray)).size = 1 := rfl
    have s2 : (four (sumN (encT p))).size = 4 := four_size _
    rw [if_pos (by rw [ByteArray.size_append]; omega)]
    rfl
theorem refwrap_calls (p : ByteArray) (w : World) : Calls Try.prog 11 #[.string p] w fun e w' => e = .returned (.tuple #[.string (wrp p).1, .int .i64 (wrp p).2]) ∧ Below w.heap.size w w' := by
  obtain ⟨k, hk⟩ := ref_wrap p
  exact dovecoteref03_Wrap.calls k p _ _ w hk

theorem encB_len (n : Nat) (h : n < 18446744073709551616) : (encB (n : Int)).size = if n < 248 then 1 else 1 + byteLen n := by
  unfold encB encN
  by_cases h1 : n < 248
  · rw [if_pos (by omega), if_pos h1, size_nums]; rfl
  · rw [if_neg (by omega), if_neg h1, size_nums, List.length_cons, beTo_length, Int.toNat_natCast]; omega
theorem fail_f (s : ByteArray) (er c : Int) : dovecoteref02_Reader_fail.f s er c = some (ByteArray.empty, c) := rfl
theorem refnum_end (s : ByteArray) (m : Int) (k : Nat) (hk1 : 1 ≤ k) (hk8 : k ≤ 8) (hks : k < s.size) (hs : s.size ≤ 281474976710656) (hv : beVal s k < 18446744073709551616) (j : Nat) :
    dovecoteref02_Reader_Number.l0 (j + 1) m (beVal s k : Int) (k : Int) ((k + 1 : Nat) : Int) s 0 = some (numBig s m k) := by
  unfold dovecoteref02_Reader_Number.l0 numBig
  rw [if_neg (by omega)]
  have e : dovecoteref02_Number.f (beVal s k : Int) = some (encB (beVal s k : Int)) := by
    unfold dovecoteref02_Number.f
    rw [if_pos (by omega), if_pos (by omega)]
  have hl := encB_len (beVal s k) hv
  have hw : wrap64 (1 + (k : Int)) = ((k + 1 : Nat) : Int) := by unfold wrap64; omega
  rw [e, Option.bind_some, hw]
  by_cases hc : beVal s k < 248 ∨ byteLen (beVal s k) ≠ k
  · have hne : ¬ (((encB (beVal s k : Int)).size : Int) = ((k + 1 : Nat) : Int)) := by
      rcases hc with hc | hc
      · rw [if_pos hc] at hl; omega
      · by_cases h2 : beVal s k < 248
        · rw [if_pos h2] at hl; omega
        · rw [if_neg h2] at hl; omega
    rw [if_neg hne, if_pos hc]; rfl
  · have h1 : ¬ beVal s k < 248 := fun h => hc (.inl h)
    have h2 : byteLen (beVal s k) = k := by
      rcases Nat.decEq (byteLen (beVal s k)) k with h | h
      · exact absurd (Or.inr h) hc
      · exact h
    rw [if_neg h1, h2] at hl
    rw [if_pos (by omega), if_neg hc]
    unfold numFin
    by_cases hm : (beVal s k : Int) ≤ m
    · rw [if_neg (by omega), if_pos (by omega), if_pos (by omega), if_pos hm, Int.toNat_natCast]
    · rw [if_pos (by omega), if_neg hm]; rfl
theorem refnum_loop (s : ByteArray) (m : Int) (k : Nat) (hk1 : 1 ≤ k) (hk8 : k ≤ 8) (hks : k < s.size) (hs : s.size ≤ 281474976710656) : ∀ d c, c + d = k →
    dovecoteref02_Reader_Number.l0 (d + 1) m (beVal s c : Int) (k : Int) ((c + 1 : Nat) : Int) s 0 = some (numBig s m k) := by
  intro d
  induction d with
  | zero =>
    intro c hc
    have : c = k := by omega
    subst this
    exact refnum_end s m c hk1 hk8 hks hs (by have := beVal_lt s c; have h8 : (256 : Nat) ^ c ≤ 256 ^ 8 := Nat.pow_le_pow_right (by decide) hk8; have : (256 : Nat) ^ 8 = 18446744073709551616 := by decide
                                              omega) 0
  | succ d ih =>
    intro c hc
    have hlt := beVal_lt s (c + 1)
    have h8 : (256 : Nat) ^ (c + 1) ≤ 256 ^ 8 := Nat.pow_le_pow_right (by decide) (by omega)
    have h9 : (256 : Nat) ^ 8 = 18446744073709551616 := by decide
    have hr := bt_range s ((c + 1 : Nat) : Int)
    have hstep : beVal s (c + 1) = beVal s c * 256 + (bt s ((c + 1 : Nat) : Int)).toNat := rfl
    unfold dovecoteref02_Reader_Number.l0
    rw [if_pos (by omega), if_pos (by omega), if_pos (by omega)]
    have e : IntKind.u64.wrap (IntKind.u64.wrap ((beVal s c : Int) * 256) + IntKind.u64.wrap (bt s ((c + 1 : Nat) : Int))) = (beVal s (c + 1) : Int) := by
      have e64 : ∀ x : Int, IntKind.u64.wrap x = x % 18446744073709551616 := fun _ => rfl
      rw [e64, e64, e64]; omega
    rw [e, show wrap64 (((c + 1 : Nat) : Int) + 1) = ((c + 1 + 1 : Nat) : Int) by unfold wrap64; omega]
    exact ih (c + 1) (by omega)
theorem refnum_f (s : ByteArray) (m : Int) (hm : 0 ≤ m) (hs : s.size ≤ 281474976710656) : ∃ k, dovecoteref02_Reader_Number.f k s 0 m = some (rdNum s 0 m) := by
  refine ⟨(bt s 0 - 247).toNat + 1, ?_⟩
  have hr := bt_range s 0
  have hu : IntKind.u64.wrap (bt s 0) = bt s 0 := by
    have e64 : ∀ x : Int, IntKind.u64.wrap x = x % 18446744073709551616 := fun _ => rfl
    rw [e64]; omega
  unfold dovecoteref02_Reader_Number.f rdNum numR
  rw [if_pos rfl, if_pos rfl]
  simp only [toList_nil]
  by_cases h0 : s.size = 0
  · rw [if_pos h0, if_pos h0]; rfl
  · rw [if_neg h0, if_neg h0, if_pos (by omega), hu]
    by_cases h1 : bt s 0 < 248
    · rw [if_neg (by omega), if_pos h1]
      unfold numFin
      by_cases h2 : bt s 0 ≤ m
      · rw [if_neg (by omega), if_pos (by omega), if_pos h2]
      · rw [if_pos (by omega), if_neg h2]; rfl
    · rw [if_pos (by omega), if_neg h1]
      obtain ⟨k, hk⟩ : ∃ k : Nat, bt s 0 - 247 = (k : Int) := ⟨(bt s 0 - 247).toNat, by omega⟩
      have w1 : wrap64 (bt s 0) = bt s 0 := by unfold wrap64; omega
      have w2 : wrap64 ((k : Nat) : Int) = (k : Int) := by unfold wrap64; omega
      have w3 : wrap64 (1 + (k : Int)) = ((k + 1 : Nat) : Int) := by unfold wrap64; omega
      rw [w1, hk, w2, w3, Int.toNat_natCast]
      by_cases h2 : s.size ≤ k
      · rw [if_pos (by omega), if_pos h2]; rfl
      · rw [if_neg (by omega), if_neg h2]
        exact refnum_loop s m k (by omega) (by omega) (by omega) hs k 0 (by omega)

/-! ### The document's Next -/
/-- How a text with a whole frame's room is made up. -/
theorem hd_split (s : ByteArray) (h0 : ¬ s.size = 0) (h1 : bt s 0 = 215) (h2 : (hd s).2.2 = 0) (k : Nat) (hk : (hd s).1 = (k : Int)) (h3 : ¬ (hd s).2.1.size < k + 4) :
    ∃ p f : ByteArray, (hd s).2.1.extract 0 k = p ∧ p.size = k ∧ f.size = 4 ∧ k ≤ 16384 ∧ s.extract (atOf s) (atOf s + k) = p ∧ s.extract (atOf s + k) (atOf s + k + 4) = f ∧ s.extract 1 (atOf s + k) = encT p ∧
      (frm p).size = atOf s + k + 4 ∧ (frm p).size ≤ s.size ∧ s.extract 0 (frm p).size = strOfNums [215] ++ encT p ++ f := by
  have hh := rdNum_inv (s.extract 1 s.size) 0 16384
  rw [show rdNum (s.extract 1 s.size) 0 16384 = hd s from rfl] at hh
  have hat : atOf s = s.size - (hd s).2.1.size := rfl
  obtain ⟨_, i1, i2, i3, i4⟩ := hh h2
  have hs := head_split s h0
  rw [h1, i1] at hs
  have hss : s.size = 1 + ((encB (hd s).1).size + (hd s).2.1.size) := by
    conv => lhs; rw [hs]
    rw [ByteArray.size_append, ByteArray.size_append, mark_size]
  generalize hd s = q at *
  generalize atOf s = a at *
  obtain ⟨n, r, e⟩ := q
  dsimp only at *
  subst hk
  have ha : a = 1 + (encB (k : Int)).size := by omega
  have er : r = r.extract 0 k ++ r.extract k r.size := extract_both r k
  have er2 : r.extract k r.size = (r.extract k r.size).extract 0 4 ++ (r.extract k r.size).extract 4 (r.extract k r.size).size := extract_both _ 4
  generalize hp : r.extract 0 k = p at *
  generalize hu : r.extract k r.size = u at *
  generalize hf : u.extract 0 4 = f at *
  generalize ht : u.extract 4 u.size = t at *
  have hps : p.size = k := by rw [← hp, ByteArray.size_extract]; omega
  have hus : u.size = r.size - k := by rw [← hu, ByteArray.size_extract]; omega
  have hfs : f.size = 4 := by rw [← hf, ByteArray.size_extract]; omega
  have e0 : s = strOfNums [215] ++ (encB (k : Int) ++ (p ++ (f ++ t))) := by rw [← er2, ← er]; exact hs
  have hke : encB (k : Int) ++ p = encT p := by unfold encT; rw [hps]
  have hfz : (frm p).size = a + k + 4 := by rw [frm_size, hps]; omega
  refine ⟨p, f, rfl, hps, hfs, by omega, ?_, ?_, ?_, hfz, by omega, ?_⟩
  · rw [e0, show strOfNums [215] ++ (encB (k : Int) ++ (p ++ (f ++ t))) = (strOfNums [215] ++ encB (k : Int)) ++ p ++ (f ++ t) by simp only [ByteArray.append_assoc]]
    exact extract_mid _ _ _ _ _ (by rw [ByteArray.size_append, mark_size]; exact ha) (by rw [ByteArray.size_append, mark_size]; omega)
  · rw [e0, show strOfNums [215] ++ (encB (k : Int) ++ (p ++ (f ++ t))) = (strOfNums [215] ++ encB (k : Int) ++ p) ++ f ++ t by simp only [ByteArray.append_assoc]]
    exact extract_mid _ _ _ _ _ (by rw [ByteArray.size_append, ByteArray.size_append, mark_size]; omega) (by rw [ByteArray.size_append, ByteArray.size_append, mark_size]; omega)
  · rw [e0, show strOfNums [215] ++ (encB (k : Int) ++ (p ++ (f ++ t))) = strOfNums [215] ++ (encB (k : Int) ++ p) ++ (f ++ t) by simp only [ByteArray.append_assoc], hke]
    exact extract_mid _ _ _ _ _ mark_size.symm (by rw [mark_size, ← hke, ByteArray.size_append]; omega)
  · rw [hfz]
    rw [e0, show strOfNums [215] ++ (encB (k : Int) ++ (p ++ (f ++ t))) = (strOfNums [215] ++ (encB (k : Int) ++ p) ++ f) ++ t by simp only [ByteArray.append_assoc], hke]
    exact extract_left _ _ _ (by rw [ByteArray.size_append, ByteArray.size_append, mark_size, ← hke, ByteArray.size_append]; omega)
theorem append_cancel (a b c : ByteArray) (h : a ++ b = a ++ c) : b = c := by
  have h2 := congrArg bytesOf h
  rw [bytesOf_append, bytesOf_append] at h2
  exact bytes_ext (List.append_cancel_left h2)
/-- The document's way: the payload is framed anew. -/
theorem nxt_ref (s : ByteArray) (h0 : ¬ s.size = 0) (h1 : bt s 0 = 215) (h2 : (hd s).2.2 = 0) (k : Nat) (hk : (hd s).1 = (k : Int)) (h3 : ¬ (hd s).2.1.size < k + 4) (p : ByteArray) (hp : p = (hd s).2.1.extract 0 k) :
    nxt s = if s.extract 0 (frm p).size = frm p then (p, ((frm p).size : Int), 0) else (⟨#[]⟩, 0, 5) := by
  obtain ⟨p', f, e0, e1, e2, _, e3, e4, e5, e6, _, e8⟩ := hd_split s h0 h1 h2 k hk h3
  rw [e0] at hp
  subst hp
  unfold nxt
  rw [if_neg h0, if_neg (by simp [h1]), if_neg (by simp [h2]), hk, Int.toNat_natCast, if_neg h3, e3, e4, e5, e8, e6]
  by_cases hf : four (sumN (encT p)) = f
  · rw [if_neg (by simp [hf]), if_pos (by unfold frm; rw [hf])]
  · rw [if_pos (by simp [hf]), if_neg (fun h => hf ?_)]
    unfold frm at h
    exact (append_cancel _ _ _ h).symm

set_option maxRecDepth 100000 in
set_option maxHeartbeats 8000000 in
theorem refnext_calls (s : ByteArray) (hs : s.size ≤ 281474976710656) (w : World) : Calls Try.prog 14 #[.string s] w fun e w' => e = .returned (nxtV s) ∧ Below w.heap.size w w' := by
  by_cases h0 : s.size = 0
  · have HN := Lib.hid (show nxt s = (⟨#[]⟩, 0, 4) by unfold nxt; rw [if_pos h0])
    have c0 : (s.toList == ([] : List UInt8)) = true := by rw [(toList_nil s).2 h0]; rfl
    go_enter Try.func14, Try.ntmps14
    go_wp2_with fail
    go_ret3
    exact ⟨by rw [nxtV, HN.out]; rfl, Below.refl _ _⟩
  · have c0 : (s.toList == ([] : List UInt8)) = false := by
      rw [beq_eq_false_iff_ne]; exact fun h => h0 ((toList_nil s).1 h)
    have c1 : decide (0 < (s.size : Int)) = true := decide_eq_true (by omega)
    have c2 : decide (0 < s.size) = true := decide_eq_true (by omega)
    have hpos : 0 < s.size := by omega
    have hb0 : ((s[0]'hpos).toNat : Int) = bt s 0 := bt_at s 0 hpos
    by_cases hb : bt s 0 = 215
    · have c3 : (bt s 0 == 215) = true := beq_iff_eq.mpr hb
      have c4 : (bt s 0 != 215) = false := bne_eq_false_iff_eq.mpr hb
      have c5 : (1 ≤ (s.size : Int)) = True := eq_true (by omega)
      have c6 : decide (1 ≤ (s.size : Int)) = true := decide_eq_true (by omega)
      have hf := rdNum_facts (s.extract 1 s.size) 0 16384 (by decide)
      have hsz : (s.extract 1 s.size).size = s.size - 1 := by rw [ByteArray.size_extract]; omega
      obtain ⟨S1, hS1⟩ : ∃ S1, S1 = s.extract 1 s.size := ⟨_, rfl⟩
      obtain ⟨kf, hkf⟩ := refnum_f S1 16384 (by decide) (by rw [hS1]; omega)
      have hI : IsS57 w (w.alloc (.cells #[.string S1, .int .i64 0] 57)) w.heap.size S1 0 := ⟨heap_alloc_new w _, Nat.le_refl _⟩
      have HI := Lib.hid hI
      have HB0 := Lib.hid (below_alloc' (Below.refl w.heap.size w) (.cells #[.string S1, .int .i64 0] 57))
      have HREF := Lib.hid (nxt_ref s h0 hb)
      have HER := Lib.hid (fun h : (hd s).2.2 ≠ 0 => show nxt s = (⟨#[]⟩, 0, (hd s).2.2) by unfold nxt; rw [if_neg h0, if_neg (by simp [hb]), if_pos h])
      have HSH := Lib.hid (fun (h : (hd s).2.2 = 0) (h3 : (hd s).2.1.size < (hd s).1.toNat + 4) => show nxt s = (⟨#[]⟩, 0, 4) by unfold nxt; rw [if_neg h0, if_neg (by simp [hb]), if_neg (by simp [h]), if_pos h3])
      have HSP := Lib.hid (hd_split s h0 hb)
      rw [← hS1] at hf hsz
      have hhd : hd s = rdNum S1 0 16384 := by unfold hd; rw [hS1]
      rw [← hhd] at hf hkf
      have HKF := Lib.hid hkf
      have HS1 := Lib.hid hS1
      clear hI hS1 hhd hkf
      generalize hd s = q at *
      obtain ⟨n, r, er⟩ := q
      dsimp only at *
      obtain ⟨hn0, hn1, hrs⟩ := hf
      obtain ⟨k, rfl⟩ : ∃ k : Nat, n = (k : Int) := ⟨n.toNat, by omega⟩
      go_enter Try.func14, Try.ntmps14
      have hex : s.extract 1 s.size = S1 := HS1.out.symm
      go_wp2_with fail
      clear c0 c1 c2 c3 c4 c5 c6 hb0 hex
      refine (dovecoteref02_Reader_Number.calls kf w.heap.size S1 0 16384 (k : Int) r er w _ HI.out HB0.out HKF.out).mono ?_
      rintro e w2 ⟨rfl, hR, hB, hk⟩
      have d0 : w2.cell? ⟨w.heap.size, 0, none⟩ = some (.string r) := (blk_cell hR.1 0).trans rfl
      have d1 : w2.cell? ⟨w.heap.size, 1, none⟩ = some (.int .i64 er) := (blk_cell hR.1 1).trans rfl
      have HB2 := Lib.hid hB
      clear hR hB hk HB0 HI HKF
      by_cases he : er = 0
      · subst he
        have HN2 := Lib.hid (HREF.out rfl k rfl)
        clear HREF HER
        have hr64 : IntKind.u64.wrap (r.size : Int) = (r.size : Int) := by rw [u64_id _ (by omega) (by omega)]
        have hk64 : IntKind.u64.wrap ((k : Int) + 4) = (k : Int) + 4 := by rw [u64_id _ (by omega) (by omega)]
        by_cases hl : r.size < k + 4
        · have HN := Lib.hid (HSH.out rfl (by simpa using hl))
          have c7 : decide ((r.size : Int) < (k : Int) + 4) = true := decide_eq_true (by omega)
          clear HSH HSP HN2
          go_wp2_with fail
          go_ret3
          exact ⟨by rw [nxtV, HN.out]; rfl, HB2.out⟩
        · have c7 : decide ((r.size : Int) < (k : Int) + 4) = false := decide_eq_false (by omega)
          obtain ⟨p, f, e0, e1, e2, e3, _, _, _, e6, e7, e8⟩ := HSP.out rfl k rfl hl
          have HN := Lib.hid (HN2.out hl p e0.symm)
          have E0 := Lib.hid e0
          have hkr : (k : Int) ≤ (r.size : Int) := by omega
          have hk0 : (0 : Int) ≤ (k : Int) := by omega
          have HWP := Lib.hid (show wrp p = (frm p, 0) by unfold wrp; rw [if_neg (by omega)])
          have e7' : ((frm p).size : Int) ≤ (s.size : Int) := by omega
          clear HSH HSP HN2 e6 e8 e7
          generalize frm p = F at *
          have hex2 : r.extract 0 k = p := e0
          clear e0
          go_wp2_with fail
          refine (refwrap_calls p _).mono ?_
          rw [HWP.out]
          rintro e w3 ⟨rfl, hB⟩
          have HB3 := Lib.hid (below_step HB2.out hB)
          clear hB HB2 d0 d1 hex2
          by_cases hq : s.extract 0 F.size = F
          · have c8 : ((s.extract 0 F.size).toList == F.toList) = true := by rw [hq]; simp
            have c9 : ((s.extract 0 F.size).toList != F.toList) = false := by rw [bne, c8]; rfl
            have HN3 := Lib.hid (show nxt s = (p, (F.size : Int), 0) by rw [HN.out, if_pos hq])
            clear HN hq
            go_wp2_with fail
            go_ret3
            exact ⟨by rw [nxtV, HN3.out]; rfl, HB3.out⟩
          · have c8 : ((s.extract 0 F.size).toList == F.toList) = false := beq_eq_false_iff_ne.mpr fun h => hq (toList_inj.1 h)
            have c9 : ((s.extract 0 F.size).toList != F.toList) = true := by rw [bne, c8]; rfl
            have HN3 := Lib.hid (show nxt s = (⟨#[]⟩, 0, 5) by rw [HN.out, if_neg hq])
            clear HN hq
            go_wp2_with fail
            go_ret3
            exact ⟨by rw [nxtV, HN3.out]; rfl, HB3.out⟩
      · have HN := Lib.hid (HER.out he)
        have c7 : (er == 0) = false := beq_eq_false_iff_ne.mpr he
        have c8 : (er != 0) = true := bne_iff_ne.mpr he
        clear HREF HER HSH HSP
        go_wp2_with fail
        go_region
        all_goals go_wp2
        all_goals go_ret3
        all_goals exact ⟨by rw [nxtV, HN.out]; rfl, by first | exact HB2.out | exact below_drew1 HB2.out⟩
    · have HN := Lib.hid (show nxt s = (⟨#[]⟩, 0, 2) by unfold nxt; rw [if_neg h0, if_pos hb])
      have c3 : (bt s 0 == 215) = false := beq_eq_false_iff_ne.mpr hb
      have c4 : (bt s 0 != 215) = true := bne_iff_ne.mpr hb
      go_enter Try.func14, Try.ntmps14
      go_wp2_with fail
      go_ret3
      exact ⟨by rw [nxtV, HN.out]; rfl, Below.refl _ _⟩
theorem refsum_calls (s : ByteArray) (hs : s.size ≤ 281474976710656) (w : World) : Calls Try.prog 15 #[.string s] w fun e w' => e = .returned (.int .u32 (sumN s : Int)) ∧ Below w.heap.size w w' :=
  (dovecoteref03_Sum.calls (10 * s.size + 1) s _ w (ref_sum s (by omega))).mono fun _ _ ⟨h, k⟩ => ⟨h, k.below⟩
end Go.Proofs.Ytapgmedfedcliaa

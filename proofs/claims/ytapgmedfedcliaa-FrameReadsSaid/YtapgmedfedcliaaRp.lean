/- What Reader.Number reads of what Writer.Number wrote, and the other way round. No program in sight. -/
import Derived.Test.YtapgmedfedcliaaRq
set_option linter.unusedVariables false
set_option linter.unusedSimpArgs false
namespace Go.Proofs.Ytapgmedfedcliaa
open Go.RowKit Go.Proofs.YtapgmedfedcliaaW.PrintWords

theorem bytesOf_length (s : ByteArray) : (bytesOf s).length = s.size := by unfold bytesOf; rw [List.length_map]; exact Array.length_toList
theorem bytesOf_extract (s : ByteArray) (a b : Nat) : bytesOf (s.extract a b) = ((bytesOf s).take b).drop a := by
  unfold bytesOf
  rw [ByteArray.data_extract, Array.toList_extract, List.extract_eq_drop_take', List.map_drop, List.map_take]
theorem getD_left (l m : List Int) (d : Int) (i : Nat) (h : i < l.length) : (l ++ m).getD i d = l.getD i d := by
  rw [List.getD_eq_getElem?_getD, List.getD_eq_getElem?_getD, List.getElem?_append_left h]
theorem bytesOf_empty : bytesOf ByteArray.empty = [] := rfl
theorem bt_get (s : ByteArray) (i : Nat) : bt s (i : Int) = (bytesOf s).getD i 0 := by
  unfold bt
  simp only [Int.toNat_natCast]
  split
  · rename_i h
    have hl : i < (bytesOf s).length := by rw [bytesOf_length]; exact h
    rw [List.getD_eq_getElem?_getD, List.getElem?_eq_getElem hl]
    simp [bytesOf]
    rfl
  · rename_i h
    have hl : (bytesOf s).length ≤ i := by rw [bytesOf_length]; omega
    rw [List.getD_eq_getElem?_getD, List.getElem?_eq_none hl]; rfl
/-- The number that bytes make, the greatest first. -/
def val (l : List Int) : Nat := l.foldl (fun a b => a * 256 + b.toNat) 0
theorem val_snoc (l : List Int) (b : Int) : val (l ++ [b]) = val l * 256 + b.toNat := by simp [val]
theorem beVal_eq (s : ByteArray) (c : Nat) (h : c < s.size) : beVal s c = val (((bytesOf s).drop 1).take c) := by
  induction c with
  | zero => simp [beVal, val]
  | succ c ih =>
    have hl : c < ((bytesOf s).drop 1).length := by rw [List.length_drop, bytesOf_length]; omega
    rw [List.take_succ_eq_append_getElem hl, val_snoc, beVal, ih (by omega), bt_get]
    have h2 : c + 1 < (bytesOf s).length := by rw [bytesOf_length]; omega
    rw [List.getD_eq_getElem?_getD, List.getElem?_eq_getElem h2]
    simp [Nat.add_comm]
theorem val_beTo (k x : Nat) (hx : x < 256 ^ k) : ∀ c, c ≤ k → val (beTo k x c) = x / 256 ^ (k - c) := by
  intro c
  induction c with
  | zero => intro _; simp only [beTo, List.range_zero, List.map_nil, val, List.foldl_nil, Nat.sub_zero]; rw [Nat.div_eq_of_lt hx]
  | succ c ih =>
    intro hc
    rw [beTo_succ, val_snoc, ih (by omega), Int.toNat_natCast, show k - 1 - c = k - (c + 1) by omega]
    have e : k - c = (k - (c + 1)) + 1 := by omega
    rw [e, Nat.pow_succ, ← Nat.div_div_eq_div_mul]
    omega
theorem beTo_up (k v b : Nat) (hb : b < 256) (c : Nat) (hc : c ≤ k) : beTo (k + 1) (v * 256 + b) c = beTo k v c := by
  unfold beTo
  apply List.map_congr_left
  intro j hj
  have hj := List.mem_range.1 hj
  have e : k + 1 - 1 - j = (k - 1 - j) + 1 := by omega
  rw [e, Nat.pow_succ, Nat.mul_comm (256 ^ (k - 1 - j)) 256, ← Nat.div_div_eq_div_mul, show (v * 256 + b) / 256 = v by omega]
theorem beTo_val (l : List Int) (hb : Bytes l) : beTo l.length (val l) l.length = l := by
  rw [← l.reverse_reverse]
  generalize hr : l.reverse = r
  have hb : Bytes r.reverse := by rw [← hr, List.reverse_reverse]; exact hb
  clear hr
  induction r with
  | nil => rfl
  | cons b r ih =>
    rw [List.reverse_cons] at hb ⊢
    have hb1 : Bytes r.reverse := fun x hx => hb x (List.mem_append_left _ hx)
    have hbb := hb b (by simp)
    have ih := ih hb1
    rw [val_snoc, List.length_append, List.length_singleton, beTo_succ, beTo_up _ _ _ (by omega) _ (Nat.le_refl _), ih]
    congr 2
    rw [show r.reverse.length + 1 - 1 - r.reverse.length = 0 by omega, Nat.pow_zero, Nat.div_one]
    omega
theorem val_lt (l : List Int) (hb : Bytes l) : val l < 256 ^ l.length := by
  rw [← l.reverse_reverse]
  generalize hr : l.reverse = r
  have hb : Bytes r.reverse := by rw [← hr, List.reverse_reverse]; exact hb
  clear hr
  induction r with
  | nil => simp [val]
  | cons b r ih =>
    rw [List.reverse_cons] at hb ⊢
    have ih := ih (fun x hx => hb x (List.mem_append_left _ hx))
    have hbb := hb b (by simp)
    rw [val_snoc, List.length_append, List.length_singleton, Nat.pow_succ]
    omega
/-- What is read of a number's bytes and what goes on behind them. -/
theorem numR_enc (n m : Int) (t : ByteArray) (h0 : 0 ≤ n) (h1 : n ≤ 18446744073709551615) : numR (encB n ++ t) m = if n ≤ m then (n, t, 0) else (0, ByteArray.empty, 3) := by
  have hsz := (encB_size h1).1
  have hbo : bytesOf (encB n ++ t) = encN n ++ bytesOf t := by rw [bytesOf_append]; unfold encB; rw [bytesOf_nums _ (encN_bytes h0 h1)]
  have hsize : (encB n ++ t).size = (encN n).length + t.size := by rw [ByteArray.size_append]; unfold encB; rw [size_nums]
  have hext : ∀ sz, sz = (encN n).length → (encB n ++ t).extract sz (encB n ++ t).size = t := by
    intro sz hs
    apply bytes_ext
    rw [bytesOf_extract, ← bytesOf_length, List.take_length, hbo, hs, List.drop_left]
  have hlen := encN_length (n := n) h1
  unfold numR
  rw [if_neg (by omega)]
  have hb0 : bt (encB n ++ t) 0 = (encN n).getD 0 0 := by
    have := bt_get (encB n ++ t) 0
    rw [hbo] at this
    refine this.trans ?_
    rw [getD_left _ _ _ _ (by omega)]
  rw [hb0]
  by_cases hn : n < 248
  · have e : encN n = [n] := by unfold encN; rw [if_pos hn]
    rw [e] at hext
    rw [e]
    simp only [List.getD_cons_zero]
    rw [if_pos hn]
    unfold numFin
    rw [hext 1 rfl]
  · have e : encN n = (247 + (byteLen n.toNat : Int)) :: beTo (byteLen n.toNat) n.toNat (byteLen n.toNat) := by unfold encN; rw [if_neg hn]
    have hr := byteLen_range (x := n.toNat) (by omega) (by omega)
    have hlt := byteLen_lt (x := n.toNat) (by omega) (by omega)
    generalize hk : byteLen n.toNat = k at *
    have hl : (encN n).length = k + 1 := by rw [e, List.length_cons, beTo_length]
    rw [e, List.getD_cons_zero, if_neg (by omega)]
    have hkk : (247 + (k : Int) - 247).toNat = k := by omega
    rw [hkk, if_neg (by omega)]
    unfold numBig
    have hv : beVal (encB n ++ t) k = n.toNat := by
      rw [beVal_eq _ _ (by omega), hbo, e, List.cons_append, List.drop_succ_cons, List.drop_zero, List.take_left' (beTo_length _ _ _), val_beTo _ _ hlt.1 _ (Nat.le_refl _), Nat.sub_self, Nat.pow_zero, Nat.div_one]
    rw [hv, if_neg (by omega)]
    unfold numFin
    rw [hext (k + 1) hl.symm, show (n.toNat : Int) = n by omega]
/-- What was read stood there. -/
theorem numR_inv (s : ByteArray) (m n : Int) (t : ByteArray) (h : numR s m = (n, t, 0)) : s = encB n ++ t ∧ 0 ≤ n ∧ n ≤ m ∧ n ≤ 18446744073709551615 := by
  unfold numR at h
  split at h
  · simp at h
  · rename_i h0
    have hr := bt_range s 0
    have hb0 : bt s 0 = (bytesOf s).getD 0 0 := bt_get s 0
    have hlen := bytesOf_length s
    have hB := bytesOf_bytes s
    have happ : ∀ (x : Int) (sz : Nat), 0 ≤ x → x ≤ 18446744073709551615 → sz ≤ s.size → (bytesOf s).take sz = encN x → s = encB x ++ s.extract sz s.size := by
      intro x sz h0 h1 hs hx
      apply bytes_ext
      rw [bytesOf_append, bytesOf_extract, ← bytesOf_length, List.take_length]
      unfold encB
      rw [bytesOf_nums _ (encN_bytes h0 h1), ← hx, List.take_append_drop]
    split at h
    · rename_i h1
      unfold numFin at h
      split at h
      · rename_i h2
        simp only [Prod.mk.injEq, and_true] at h
        obtain ⟨rfl, rfl⟩ := h
        refine ⟨happ _ 1 hr.1 (by omega) (by omega) ?_, hr.1, h2, by omega⟩
        unfold encN
        rw [if_pos h1, hb0]
        cases hl : bytesOf s with
        | nil => rw [hl] at hlen; simp at hlen; omega
        | cons a l => simp
      · simp at h
    · rename_i h1
      split at h
      · simp at h
      · rename_i h2
        obtain ⟨k, hk⟩ : ∃ k : Nat, bt s 0 = 247 + (k : Int) := ⟨(bt s 0 - 247).toNat, by omega⟩
        rw [show (bt s 0 - 247).toNat = k by omega] at h h2
        unfold numBig at h
        split at h
        · simp at h
        · rename_i h3
          unfold numFin at h
          split at h
          · rename_i h4
            simp only [Prod.mk.injEq, and_true] at h
            obtain ⟨rfl, rfl⟩ := h
            have hv := beVal_eq s k (by omega)
            have hcl : (((bytesOf s).drop 1).take k).length = k := by rw [List.length_take, List.length_drop]; omega
            have hBy : Bytes (((bytesOf s).drop 1).take k) := fun x hx => hB x (List.mem_of_mem_drop (List.mem_of_mem_take hx))
            have hlt := val_lt _ hBy
            rw [hcl] at hlt
            have hbv := beTo_val _ hBy
            rw [hcl] at hbv
            rw [← hv] at hlt hbv
            have h64 : beVal s k < 2 ^ 64 := by
              have : 256 ^ k ≤ 256 ^ 8 := Nat.pow_le_pow_right (by omega) (by omega)
              have e : (256 : Nat) ^ 8 = 2 ^ 64 := by decide
              omega
            refine ⟨happ _ (k + 1) (by omega) (by omega) (by omega) ?_, by omega, h4, by omega⟩
            unfold encN
            rw [if_neg (by omega), Int.toNat_natCast, show byteLen (beVal s k) = k by omega, hbv, ← hk, hb0]
            cases hl : bytesOf s with
            | nil => rw [hl] at hlen; simp at hlen; omega
            | cons a l => simp
          · simp at h
/-- A number's bytes that are cut off are read as cut off. -/
theorem numR_cut (n m : Int) (a b : ByteArray) (h0 : 0 ≤ n) (h1 : n ≤ 18446744073709551615) (he : encB n = a ++ b) (hb : 0 < b.size) : numR a m = (0, ByteArray.empty, 4) := by
  have hbo : encN n = bytesOf a ++ bytesOf b := by rw [← bytesOf_append, ← he]; unfold encB; rw [bytesOf_nums _ (encN_bytes h0 h1)]
  have hsz : (encN n).length = a.size + b.size := by rw [hbo, List.length_append, bytesOf_length, bytesOf_length]
  unfold numR
  by_cases ha : a.size = 0
  · rw [if_pos ha]
  · rw [if_neg ha]
    have hb0 : bt a 0 = (encN n).getD 0 0 := by
      have := bt_get a 0
      refine this.trans ?_
      rw [hbo, getD_left _ _ _ _ (by rw [bytesOf_length]; omega)]
    rw [hb0]
    by_cases hn : n < 248
    · have e : encN n = [n] := by unfold encN; rw [if_pos hn]
      rw [e] at hsz
      simp at hsz
      omega
    · have e : encN n = (247 + (byteLen n.toNat : Int)) :: beTo (byteLen n.toNat) n.toNat (byteLen n.toNat) := by unfold encN; rw [if_neg hn]
      have hl : (encN n).length = byteLen n.toNat + 1 := by rw [e, List.length_cons, beTo_length]
      have hr := byteLen_range (x := n.toNat) (by omega) (by omega)
      rw [e, List.getD_cons_zero, if_neg (by omega), show (247 + (byteLen n.toNat : Int) - 247).toNat = byteLen n.toNat by omega, if_pos (by omega)]
end Go.Proofs.Ytapgmedfedcliaa

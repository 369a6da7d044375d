/- What is framed is read, and the other way round; what else is read; the look ahead of each of the frame's laws (awake) answers true. Conditions: those that each theorem names. -/
import Derived.Test.YtapgmedfedcliaaPLax
set_option linter.unusedVariables false
set_option linter.unusedSimpArgs false
namespace Go.Proofs.Ytapgmedfedcliaa
open Go.RowKit Go.Proofs.YtapgmedfedcliaaW.PrintWords PRd PFr PLa


theorem extract_mid (a b c : ByteArray) (n m : Nat) (hn : n = a.size) (hm : m = a.size + b.size) : (a ++ b ++ c).extract n m = b := by
  apply bytes_ext
  rw [bytesOf_extract, bytesOf_append, List.take_left' (by rw [bytesOf_length, ByteArray.size_append, hm]), bytesOf_append, List.drop_left' (by rw [bytesOf_length, hn])]
theorem head_split (s : ByteArray) (h : s.size ≠ 0) : s = strOfNums [bt s 0] ++ s.extract 1 s.size := by
  have hb0 : bt s 0 = (bytesOf s).getD 0 0 := bt_get s 0
  have hr := bt_range s 0
  have hlen := bytesOf_length s
  apply bytes_ext
  rw [bytesOf_append, bytesOf_extract, ← hlen, List.take_length, bytesOf_nums _ (by intro x hx; simp at hx; omega), hb0]
  cases hl : bytesOf s with
  | nil => rw [hl] at hlen; simp at hlen; omega
  | cons a l => simp
theorem mark_size : (strOfNums ([215] : List Int)).size = 1 := rfl
theorem frm_size (p : ByteArray) : (frm p).size = 1 + (encB p.size).size + p.size + 4 := by
  unfold frm encT
  rw [ByteArray.size_append, ByteArray.size_append, ByteArray.size_append, four_size, mark_size]; omega
theorem hd_frm (p t : ByteArray) (hp : p.size ≤ 16384) : hd (frm p ++ t) = ((p.size : Int), p ++ (four (sumN (encT p)) ++ t), 0) := by
  have e : frm p ++ t = strOfNums [215] ++ (encB p.size ++ (p ++ (four (sumN (encT p)) ++ t))) := by
    unfold frm encT
    simp only [ByteArray.append_assoc]
  unfold hd
  rw [e, extract_right _ _ _ _ mark_size.symm (by rw [ByteArray.size_append])]
  exact rdNum_enc _ _ _ (by omega) (by omega) (by omega)
theorem bt_frm (p t : ByteArray) : bt (frm p ++ t) 0 = 215 := by
  have := bt_get (frm p ++ t) 0
  refine this.trans ?_
  unfold frm
  simp only [ByteArray.append_assoc]
  rw [bytesOf_append]
  rfl
/-- What was framed is read. -/
theorem nxt_frm (p t : ByteArray) (hp : p.size ≤ 16384) : nxt (frm p ++ t) = (p, ((frm p).size : Int), 0) := by
  have hh := hd_frm p t hp
  have hs := frm_size p
  have hat : atOf (frm p ++ t) = 1 + (encB p.size).size := by
    unfold atOf
    rw [hh, ByteArray.size_append]
    simp only [ByteArray.size_append, four_size]
    omega
  have e1 : (frm p ++ t).extract (1 + (encB p.size).size) (1 + (encB p.size).size + p.size) = p := by
    have e : frm p ++ t = (strOfNums [215] ++ encB p.size) ++ p ++ (four (sumN (encT p)) ++ t) := by
      unfold frm encT
      simp only [ByteArray.append_assoc]
    rw [e]
    exact extract_mid _ _ _ _ _ (by rw [ByteArray.size_append, mark_size]) (by rw [ByteArray.size_append, mark_size])
  have e2 : (frm p ++ t).extract 1 (1 + (encB p.size).size + p.size) = encT p := by
    have e : frm p ++ t = strOfNums [215] ++ encT p ++ (four (sumN (encT p)) ++ t) := by
      unfold frm
      simp only [ByteArray.append_assoc]
    rw [e]
    exact extract_mid _ _ _ _ _ mark_size.symm (by rw [mark_size, encT, ByteArray.size_append]; omega)
  have e3 : (frm p ++ t).extract (1 + (encB p.size).size + p.size) (1 + (encB p.size).size + p.size + 4) = four (sumN (encT p)) := by
    have e : frm p ++ t = (strOfNums [215] ++ encT p) ++ four (sumN (encT p)) ++ t := by
      unfold frm
      simp only [ByteArray.append_assoc]
    rw [e]
    exact extract_mid _ _ _ _ _ (by rw [ByteArray.size_append, mark_size, encT, ByteArray.size_append]; omega) (by rw [ByteArray.size_append, mark_size, encT, ByteArray.size_append, four_size]; omega)
  unfold nxt
  rw [if_neg (by rw [ByteArray.size_append]; omega), if_neg (by simp [bt_frm]), hh, hat]
  simp only [Int.toNat_natCast]
  rw [if_neg (by simp), if_neg (by simp only [ByteArray.size_append, four_size]; omega), e2, e3, if_neg (by simp), e1, hs]
/-- What is read was framed. -/
theorem nxt_inv (s : ByteArray) (h : (nxt s).2.2 = 0) : ∃ t, s = frm (nxt s).1 ++ t ∧ (nxt s).1.size ≤ 16384 ∧ (nxt s).2.1 = ((frm (nxt s).1).size : Int) := by
  have hh := rdNum_inv (s.extract 1 s.size) 0 16384
  rw [show rdNum (s.extract 1 s.size) 0 16384 = hd s from rfl] at hh
  have hat : atOf s = s.size - (hd s).2.1.size := rfl
  unfold nxt at *
  split at h
  · exact absurd h (by decide)
  · rename_i h0
    split at h
    · exact absurd h (by decide)
    · rename_i h1
      split at h
      · rename_i h2; exact absurd h h2
      · rename_i h2
        split at h
        · exact absurd h (by decide)
        · rename_i h3
          split at h
          · exact absurd h (by decide)
          · rename_i h4
            rw [if_neg h0, if_neg h1, if_neg h2, if_neg h3, if_neg h4]
            obtain ⟨_, i1, i2, i3, i4⟩ := hh (by simpa using h2)
            have hs := head_split s h0
            have hb : bt s 0 = 215 := by simpa using h1
            rw [hb, i1] at hs
            have hss : s.size = 1 + ((encB (hd s).1).size + (hd s).2.1.size) := by
              conv => lhs; rw [hs]
              rw [ByteArray.size_append, ByteArray.size_append, mark_size]
            generalize hd s = q at *
            generalize atOf s = a at *
            obtain ⟨n, r, e⟩ := q
            obtain ⟨k, rfl⟩ : ∃ k : Nat, n = (k : Int) := ⟨n.toNat, by dsimp only at *; omega⟩
            simp only [Int.toNat_natCast] at *
            have ha : a = 1 + (encB (k : Int)).size := by omega
            have er : r = r.extract 0 k ++ r.extract k r.size := extract_both r k
            have er2 : r.extract k r.size = (r.extract k r.size).extract 0 4 ++ (r.extract k r.size).extract 4 (r.extract k r.size).size := extract_both _ 4
            generalize hp : r.extract 0 k = p at *
            generalize hu : r.extract k r.size = u at *
            generalize hf : u.extract 0 4 = f at *
            generalize ht : u.extract 4 u.size = t at *
            have hps : p.size = k := by rw [← hp, ByteArray.size_extract]; omega
            have hus : u.size = r.size - k := by rw [← hu, ByteArray.size_extract]; omega
            have hfs : f.size = 4 := by rw [← hf, ByteArray.size_extract]; omega
            have e0 : s = strOfNums [215] ++ (encB (k : Int) ++ (p ++ (f ++ t))) := by rw [← er2, ← er]; exact hs
            have hke : encB (k : Int) ++ p = encT p := by unfold encT; rw [hps]
            have x1 : s.extract a (a + k) = p := by
              rw [e0, show strOfNums [215] ++ (encB (k : Int) ++ (p ++ (f ++ t))) = (strOfNums [215] ++ encB (k : Int)) ++ p ++ (f ++ t) by simp only [ByteArray.append_assoc]]
              exact extract_mid _ _ _ _ _ (by rw [ByteArray.size_append, mark_size]; exact ha) (by rw [ByteArray.size_append, mark_size]; omega)
            have x2 : s.extract (a + k) (a + k + 4) = f := by
              rw [e0, show strOfNums [215] ++ (encB (k : Int) ++ (p ++ (f ++ t))) = (strOfNums [215] ++ encB (k : Int) ++ p) ++ f ++ t by simp only [ByteArray.append_assoc]]
              exact extract_mid _ _ _ _ _ (by rw [ByteArray.size_append, ByteArray.size_append, mark_size]; omega) (by rw [ByteArray.size_append, ByteArray.size_append, mark_size]; omega)
            have x3 : s.extract 1 (a + k) = encT p := by
              rw [e0, show strOfNums [215] ++ (encB (k : Int) ++ (p ++ (f ++ t))) = strOfNums [215] ++ (encB (k : Int) ++ p) ++ (f ++ t) by simp only [ByteArray.append_assoc], hke]
              exact extract_mid _ _ _ _ _ mark_size.symm (by rw [mark_size, ← hke, ByteArray.size_append]; omega)
            rw [x2, x3] at h4
            have hf2 : four (sumN (encT p)) = f := by simpa using h4
            refine ⟨t, ?_, ?_, ?_⟩
            · show s = frm (s.extract a (a + k)) ++ t
              rw [x1]
              unfold frm
              rw [hf2, ← hke]
              simp only [ByteArray.append_assoc]
              exact e0
            · show (s.extract a (a + k)).size ≤ 16384
              rw [x1, hps]; omega
            · show ((a + k + 4 : Nat) : Int) = _
              rw [x1, frm_size, hps]; omega
theorem nxt_err (s : ByteArray) (h : (nxt s).2.2 ≠ 0) : (nxt s).1 = ⟨#[]⟩ ∧ (nxt s).2.1 = 0 := by
  unfold nxt at *
  by_cases h0 : s.size = 0
  · rw [if_pos h0]; exact ⟨rfl, rfl⟩
  · rw [if_neg h0] at h ⊢
    by_cases h1 : bt s 0 ≠ 215
    · rw [if_pos h1]; exact ⟨rfl, rfl⟩
    · rw [if_neg h1] at h ⊢
      by_cases h2 : (hd s).2.2 ≠ 0
      · rw [if_pos h2]; exact ⟨rfl, rfl⟩
      · rw [if_neg h2] at h ⊢
        by_cases h3 : (hd s).2.1.size < (hd s).1.toNat + 4
        · rw [if_pos h3]; exact ⟨rfl, rfl⟩
        · rw [if_neg h3] at h ⊢
          by_cases h4 : four (sumN (s.extract 1 (atOf s + (hd s).1.toNat))) ≠ s.extract (atOf s + (hd s).1.toNat) (atOf s + (hd s).1.toNat + 4)
          · rw [if_pos h4]; exact ⟨rfl, rfl⟩
          · rw [if_neg h4] at h; exact absurd rfl h
/-- Neither of two frames begins the other. -/
theorem frm_apart (p q t : ByteArray) (hp : p.size ≤ 16384) (hq : q.size ≤ 16384) (h : frm q = frm p ++ t) : p = q := by
  have h1 := nxt_frm p t hp
  have h2 := nxt_frm q ByteArray.empty hq
  rw [ByteArray.append_empty, h, h1] at h2
  exact (Prod.mk.inj h2).1
theorem four_inj {x y : Nat} (hx : x < 4294967296) (hy : y < 4294967296) (h : four x = four y) : x = y := by
  have h2 := congrArg bytesOf h
  unfold four at h2
  rw [bytesOf_nums _ (by intro z hz; simp at hz; omega), bytesOf_nums _ (by intro z hz; simp at hz; omega)] at h2
  simp only [List.cons.injEq, and_true] at h2
  omega
theorem natsOf_append (a b : ByteArray) : natsOf (a ++ b) = natsOf a ++ natsOf b := by
  unfold natsOf
  rw [ByteArray.data_append]; simp
theorem natsOf_inj {a b : ByteArray} (h : natsOf a = natsOf b) : a = b := by
  have h2 : a.data.toList = b.data.toList := map_inj _ (fun x y hxy => UInt8.toNat_inj.1 hxy) _ _ h
  have h3 : a.data = b.data := Array.toList_inj.1 h2
  cases a; cases b; simp_all
/-- A frame one byte of which is another one isn't a frame. -/
theorem frm_turned (p q : ByteArray) (i c : Nat) (hi : i < (frm p).size) (hc : c < 256) (hne : (natsOf (frm p))[i]? ≠ some c) (h : natsOf (frm q) = (natsOf (frm p)).set i c) : False := by
  have hl : (frm q).size = (frm p).size := by rw [← natsOf_length, h, List.length_set, natsOf_length]
  have hT : ∀ z, (frm z).size = 1 + (encT z).size + 4 := by intro z; rw [frm_size, encT, ByteArray.size_append]; omega
  have hTT : (encT q).size = (encT p).size := by have := hT p; have := hT q; omega
  have e : ∀ z, natsOf (frm z) = natsOf (strOfNums [215]) ++ (natsOf (encT z) ++ natsOf (four (sumN (encT z)))) := by
    intro z; unfold frm; rw [natsOf_append, natsOf_append, List.append_assoc]
  have lM : (natsOf (strOfNums ([215] : List Int))).length = 1 := by rw [natsOf_length]; rfl
  have lT : ∀ z, (natsOf (encT z)).length = (encT z).size := fun z => natsOf_length _
  have lF : ∀ z, (natsOf (four (sumN (encT z)))).length = 4 := fun z => by rw [natsOf_length, four_size]
  by_cases hEq : encT q = encT p
  · have : frm q = frm p := by unfold frm; rw [hEq]
    rw [this] at h
    apply hne
    have hi' : i < (natsOf (frm p)).length := by rw [natsOf_length]; exact hi
    rw [h, List.getElem?_set_self hi']
  · rw [e, e] at h
    have hp1 : 1 ≤ i := by
      rcases Nat.eq_zero_or_pos i with h0 | h0
      · exfalso
        subst h0
        apply hEq
        have := congrArg (List.drop 1) h
        rw [List.drop_left' lM, List.drop_set, List.drop_left' lM] at this
        simp at this
        have h3 := List.append_inj this (by rw [lT, lT, hTT])
        exact natsOf_inj h3.1
      · exact h0
    have hp2 : i - 1 < (encT p).size := by
      rcases Nat.lt_or_ge (i - 1) (encT p).size with h0 | h0
      · exact h0
      · exfalso
        apply hEq
        rw [List.set_append_right _ _ (by rw [lM]; exact hp1), lM, List.set_append_right _ _ (by rw [lT]; exact h0)] at h
        have h3 := List.append_inj h rfl
        have h4 := List.append_inj h3.2 (by rw [lT, lT, hTT])
        exact natsOf_inj h4.1
    rw [List.set_append_right _ _ (by rw [lM]; exact hp1), lM, List.set_append_left _ _ (by rw [lT]; exact hp2)] at h
    have h3 := List.append_inj h rfl
    have h4 := List.append_inj h3.2 (by rw [List.length_set, lT, lT, hTT])
    have h5 := four_inj (sumN_lt _) (sumN_lt _) (natsOf_inj h4.2)
    have hj : i - 1 < (natsOf (encT p)).length := by rw [lT]; exact hp2
    have hs : natsOf (encT p) = (natsOf (encT p)).take (i - 1) ++ (natsOf (encT p))[i - 1] :: (natsOf (encT p)).drop (i - 1 + 1) := by
      rw [← List.drop_eq_getElem_cons hj, List.take_append_drop]
    have hs2 : natsOf (encT q) = (natsOf (encT p)).take (i - 1) ++ c :: (natsOf (encT p)).drop (i - 1 + 1) := by
      rw [h4.1, List.set_eq_take_append_cons_drop, if_pos hj]
    have h6 := sumN_one _ _ _ _ _ _ hs2 hs h5
    apply hEq
    apply natsOf_inj
    rw [hs, hs2, h6]
theorem awake_f : dovecotelaw03_awake.f = some true := by decide +kernel
theorem awake_calls (w : World) : Calls Try.prog 9 #[] w fun e w' => e = .returned (.bool true) ∧ Below w.heap.size w w' :=
  dovecotelaw03_awake.calls true w awake_f
end Go.Proofs.Ytapgmedfedcliaa

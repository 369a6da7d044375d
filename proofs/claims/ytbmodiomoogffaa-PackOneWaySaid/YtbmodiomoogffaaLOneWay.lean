/- The walk of PackOneWay: writing what was read gives just the bytes. Condition: the text's length. -/
import Derived.Test.YtbmodiomoogffaaRi
import Derived.Test.YtbmodiomoogffaaAw
set_option linter.unusedVariables false
set_option linter.unusedSimpArgs false
namespace Go.Proofs.Ytbmodiomoogffaa
open Go.RowKit Go.Proofs.YtbmodiomoogffaaW.PrintWords PRd

set_option maxHeartbeats 8000000 in
theorem walk_PackOneWay (s : ByteArray) (hs : s.size ≤ 140737488351232) (w : World) :
    Calls Try.prog 7 #[.string s] w fun e w' => e = .returned (.bool true) ∧ Below w.heap.size w w' := by
  -- what is read
  obtain ⟨n, s1, e1, h1⟩ : ∃ n s1 e1, rdNum s 0 M64 = (n, s1, e1) := ⟨_, _, _, rfl⟩
  obtain ⟨t, s2, e2, h2⟩ : ∃ t s2 e2, rdText s1 e1 0 1099511627776 = (t, s2, e2) := ⟨_, _, _, rfl⟩
  obtain ⟨p, l, s3, e3, h3⟩ : ∃ p l s3 e3, rdStamp s2 e2 = (p, l, s3, e3) := ⟨_, _, _, _, rfl⟩
  obtain ⟨b, s4, e4, h4⟩ : ∃ b s4 e4, rdFlag s3 e3 = (b, s4, e4) := ⟨_, _, _, rfl⟩
  have hz1 : s1.size ≤ s.size := by have := (rdNum_facts s 0 M64 (by decide)).2.2; rw [h1] at this; exact this
  have hz1 : s1.size ≤ 9223372036854775807 := by omega
  have hl4 : Hid (e4 ≠ 0 → s4 = ByteArray.empty) := by
    have a1 := rdNum_left s 0 M64 (by decide) (fun h => absurd rfl h)
    rw [h1] at a1
    have a2 := rdText_left s1 e1 0 1099511627776 a1
    rw [h2] at a2
    have a3 := rdStamp_left s2 e2 a2
    rw [h3] at a3
    have a4 := rdFlag_left s3 e3 a3
    rw [h4] at a4
    exact a4
  have hok : Hid (e4 = 0 → s = ByteArray.empty ++ encB n ++ encB t.size ++ t ++ encB p ++ encB l ++ encF b ++ s4 ∧ (0 ≤ n ∧ n ≤ 18446744073709551615) ∧ (0 ≤ p ∧ p ≤ 281474976710656) ∧ (0 ≤ l ∧ l ≤ 4095)) := by
    show _ → _
    intro h
    have a4 := rdFlag_inv s3 e3; rw [h4] at a4
    obtain ⟨k4, j4⟩ := a4 h
    have a3 := rdStamp_inv s2 e2; rw [h3] at a3
    obtain ⟨k3, j3, x1, x2, x3, x4⟩ := a3 k4
    have a2 := rdText_inv s1 e1 0 1099511627776; rw [h2] at a2
    obtain ⟨k2, j2, _⟩ := a2 k3
    have a1 := rdNum_inv s 0 M64; rw [h1] at a1
    obtain ⟨k1, j1, x5, x6, x7⟩ := a1 k2
    refine ⟨?_, ⟨x5, x7⟩, ⟨x1, x2⟩, ⟨x3, x4⟩⟩
    dsimp only at j1 j2 j3 j4
    rw [ByteArray.empty_append]
    simp only [ByteArray.append_assoc] at *
    rw [← j4, ← j3, ← j2, ← j1]
  have H1 := Lib.hid h1
  have H2 := Lib.hid h2
  have H3 := Lib.hid h3
  have H4 := Lib.hid h4
  clear h1 h2 h3 h4
  obtain ⟨w0, hw0⟩ : ∃ w0, w0 = w := ⟨_, rfl⟩
  have hB : Below w0.heap.size w0 w := by rw [hw0]; exact Below.refl _ _
  have HB := Lib.hid hB
  rw [← hw0]
  have HA := Lib.hid (awake_calls w0 w0 (Below.refl _ _))
  clear hB hw0
  go_enter Try.func7, Try.ntmps7
  go_wp2_with fail
  refine HA.out.mono ?_
  rintro e w1 ⟨rfl, hB⟩
  have HB1 := Lib.hid hB
  clear hB HA HB
  go_wp2_with fail
  refine (rnew _ HB1.out).mono ?_
  rintro e w2 ⟨r, rfl, hR, hB, hb, hr⟩
  have HR2 := Lib.hid hR
  have HB2 := Lib.hid hB
  clear hR hB hb hr HB1
  go_wp2_with fail
  refine (rnumber w0 _ r _ 0 M64 (by decide) (by decide) HR2.out HB2.out).mono ?_
  rw [H1.out]
  rintro e w3 ⟨rfl, hR, hB, hk⟩
  have HR3 := Lib.hid hR
  have HB3 := Lib.hid hB
  clear hR hB hk HR2 HB2
  go_wp2_with fail
  refine (rtext 0 1099511627776 HR3.out HB3.out hz1 (by decide) (by decide)).mono ?_
  rw [H2.out]
  rintro e w4 ⟨rfl, hR, hB, hk⟩
  have HR4 := Lib.hid hR
  have HB4 := Lib.hid hB
  clear hR hB hk HR3 HB3
  go_wp2_with fail
  refine (rstamp HR4.out HB4.out).mono ?_
  rw [H3.out]
  rintro e w5 ⟨rfl, hR, hB, hk⟩
  have HR5 := Lib.hid (hR.alloc (.cells #[.int .u64 p, .int .u32 l] 43))
  have HB5 := Lib.hid (below_alloc' hB (.cells #[.int .u64 p, .int .u32 l] 43))
  have hX5 : (w5.alloc (.cells #[.int .u64 p, .int .u32 l] 43)).heap[w5.heap.size]? = some (.cells #[.int .u64 p, .int .u32 l] 43 (0, 0)) := heap_alloc_new w5 _
  have HX5 := Lib.hid hX5
  clear hX5 hR hB hk HR4 HB4
  go_wp2_with fail
  generalize w5.heap.size = x at *
  refine (rflag HR5.out HB5.out).mono ?_
  rw [H4.out]
  rintro e w6 ⟨rfl, hR, hB, hk⟩
  have HR6 := Lib.hid hR
  have HB6 := Lib.hid hB
  have HX6 := Lib.hid (blk_keepR hk HR5.out HX5.out (by decide))
  clear hR hB hk HR5 HB5 HX5
  go_wp2_with fail
  refine (rerr HR6.out HB6.out).mono ?_
  rintro e w7 ⟨rfl, hR, hB, hk⟩
  have HR7 := Lib.hid hR
  have HB7 := Lib.hid hB
  have HX7 := Lib.hid (blk_keepR hk HR6.out HX6.out (by decide))
  clear hR hB hk HR6 HB6 HX6 H1 H2 H3 H4 hz1
  by_cases he : e4 = 0
  · obtain ⟨hS, hn, hp, hl⟩ := hok.out he
    subst he
    have hs2 : s.size = (ByteArray.empty ++ encB n ++ encB t.size ++ t ++ encB p ++ encB l ++ encF b).size + s4.size := by rw [← ByteArray.size_append, ← hS]
    simp only [ByteArray.size_append, ByteArray.size_empty] at hs2
    have hx : Hid (s.extract 0 ((encB n).size + (encB t.size).size + t.size + (encB p).size + (encB l).size + (encF b).size) = encB n ++ encB t.size ++ t ++ encB p ++ encB l ++ encF b) := by
      show _ = _
      conv => lhs; rw [hS, ByteArray.empty_append]
      rw [extract_left]
      simp only [ByteArray.size_append]
    clear hok hl4 hS
    have HW8 := Lib.hid (IsS27.made w0 w7 HB7.out.size)
    have HB8 := Lib.hid (below_alloc' HB7.out (.cells #[.slice none 0 0] 27))
    have HR8 := Lib.hid (HR7.out.alloc (.cells #[.slice none 0 0] 27))
    have HX8 := Lib.hid (((below_alloc (Below.refl w7.heap.size w7) (.cells #[.slice none 0 0] 27)).block x (Array.getElem?_eq_some_iff.1 HX7.out).1).trans HX7.out)
    clear HB7 HR7 HX7
    go_wp2_with fail
    generalize w7.heap.size = g at *
    refine (wnum w0 _ g _ n hn.1 hn.2 HW8.out HB8.out (by simp only [ByteArray.size_append, ByteArray.size_empty]; omega)).mono ?_
    rintro e w9 ⟨rfl, hW, hB, hk⟩
    have HW9 := Lib.hid hW
    have HB9 := Lib.hid hB
    have HR9 := Lib.hid (rd_keepW hk HW8.out HR8.out)
    have HX9 := Lib.hid (blk_keepW hk HW8.out HX8.out (by decide) (by decide))
    clear hW hB hk HW8 HB8 HR8 HX8
    go_wp2_with fail
    refine (wtext w0 _ g _ t HW9.out HB9.out (by simp only [ByteArray.size_append, ByteArray.size_empty]; omega)).mono ?_
    rintro e w10 ⟨rfl, hW, hB, hk⟩
    have HW10 := Lib.hid hW
    have HB10 := Lib.hid hB
    have HR10 := Lib.hid (rd_keepW hk HW9.out HR9.out)
    have HX10 := Lib.hid (blk_keepW hk HW9.out HX9.out (by decide) (by decide))
    clear hW hB hk HW9 HB9 HR9 HX9
    have cx0 := (blk_cell HX10.out 0).trans rfl
    have cx1 := (blk_cell HX10.out 1).trans rfl
    have fx0 := blk_frozen HX10.out 0
    have fx1 := blk_frozen HX10.out 1
    clear HX10
    go_wp2_with fail
    clear cx0 cx1 fx0 fx1
    refine (wstamp w0 _ g _ p l ⟨hp.1, by omega⟩ ⟨hl.1, by omega⟩ HW10.out HB10.out (by simp only [ByteArray.size_append, ByteArray.size_empty]; omega)).mono ?_
    rintro e w11 ⟨rfl, hW, hB, hk⟩
    have HW11 := Lib.hid hW
    have HB11 := Lib.hid hB
    have HR11 := Lib.hid (rd_keepW hk HW10.out HR10.out)
    clear hW hB hk HW10 HB10 HR10
    go_wp2_with fail
    refine (wflag w0 _ g _ b HW11.out HB11.out (by simp only [ByteArray.size_append, ByteArray.size_empty]; omega)).mono ?_
    rintro e w12 ⟨rfl, hW, hB, hk⟩
    have HW12 := Lib.hid hW
    have HB12 := Lib.hid hB
    have HR12 := Lib.hid (rd_keepW hk HW11.out HR11.out)
    clear hW hB hk HW11 HB11 HR11
    go_wp2_with fail
    refine (wbytes w0 _ g _ HW12.out HB12.out).mono ?_
    rintro e w13 ⟨rfl, hW, hB, hk⟩
    have HW13 := Lib.hid hW
    have HB13 := Lib.hid hB
    have HR13 := Lib.hid (rd_keepW hk HW12.out HR12.out)
    clear hW hB hk HW12 HB12 HR12
    go_wp2_with fail
    refine (rleft HR13.out HB13.out).mono ?_
    rintro e w14 ⟨rfl, hR, hB, hk⟩
    have HB14 := Lib.hid hB
    clear hR hB hk HR13 HB13 HW13
    go_wp2
    go_ret
    refine ⟨?_, HB14.out⟩
    simp only [hx.out]
    simp
  · have he2 : (e4 != 0) = true := by rw [bne_iff_ne]; exact he
    have he3 : (e4 == 0) = false := by rw [beq_eq_false_iff_ne]; exact he
    have hz := hl4.out he
    subst hz
    have en : Hid (∀ m, rdNum ByteArray.empty e4 m = (0, ByteArray.empty, e4)) := fun m => if_neg he
    have et : Hid (rdText ByteArray.empty e4 0 9 = (ByteArray.empty, ByteArray.empty, e4)) := by show _ = _; unfold rdText; rw [en.out, if_neg he]
    have es : Hid (rdStamp ByteArray.empty e4 = (0, 0, ByteArray.empty, e4)) := by show _ = _; unfold rdStamp; simp only [en.out]; exact if_neg he
    have ef : Hid (rdFlag ByteArray.empty e4 = (false, ByteArray.empty, e4)) := if_neg he
    have ec : Hid (rdCount ByteArray.empty e4 9 = (0, ByteArray.empty, e4)) := en.out _
    clear hok hl4
    go_wp2_with fail
    refine (rleft HR7.out HB7.out).mono ?_
    rintro e w8 ⟨rfl, hR, hB, hk⟩
    have HR8 := Lib.hid hR
    have HB8 := Lib.hid hB
    clear hR hB hk HR7 HB7
    go_wp2_with fail
    refine (rnumber w0 _ r _ _ M64 (by decide) (by decide) HR8.out HB8.out).mono ?_
    rw [en.out]
    rintro e w9 ⟨rfl, hR, hB, hk⟩
    have HR9 := Lib.hid hR
    have HB9 := Lib.hid hB
    clear hR hB hk HR8 HB8
    go_wp2_with fail
    refine (rtext 0 9 HR9.out HB9.out (by decide) (by decide) (by decide)).mono ?_
    rw [et.out]
    rintro e w10 ⟨rfl, hR, hB, hk⟩
    have HR10 := Lib.hid hR
    have HB10 := Lib.hid hB
    clear hR hB hk HR9 HB9
    go_wp2_with fail
    refine (rstamp HR10.out HB10.out).mono ?_
    rw [es.out]
    rintro e w11 ⟨rfl, hR, hB, hk⟩
    have HR11 := Lib.hid hR
    have HB11 := Lib.hid hB
    clear hR hB hk HR10 HB10
    go_wp2_with fail
    refine (rflag HR11.out HB11.out).mono ?_
    rw [ef.out]
    rintro e w12 ⟨rfl, hR, hB, hk⟩
    have HR12 := Lib.hid hR
    have HB12 := Lib.hid hB
    clear hR hB hk HR11 HB11
    go_wp2_with fail
    refine (rcount 9 HR12.out HB12.out (by decide)).mono ?_
    rw [ec.out]
    rintro e w13 ⟨rfl, hR, hB, hk⟩
    have HR13 := Lib.hid hR
    have HB13 := Lib.hid hB
    clear hR hB hk HR12 HB12
    go_wp2
    go_ret
    exact ⟨rfl, HB13.out⟩
end Go.Proofs.Ytbmodiomoogffaa

/- frame.Next answers as the plain word nxt says. Condition: how long the text is at most. -/
import Derived.Test.YtapgmedfedcliaaFn
import Derived.Deep.RegionHeld3
set_option linter.unusedVariables false
set_option linter.unusedSimpArgs false
namespace Go.Proofs.Ytapgmedfedcliaa
open Go.RowKit Go.Proofs.YtapgmedfedcliaaW.PrintWords PRd PFr

/-- What a call of Next answers. -/
abbrev nxtV (s : ByteArray) : Value := .tuple #[.string (nxt s).1, .int .i64 (nxt s).2.1, .int .i64 (nxt s).2.2]
theorem four_calls (x : Nat) (w : World) : Calls Try.prog 20 #[.int .u32 (x : Int)] w fun e w' => e = .returned (.string (four x)) ∧ Below w.heap.size w w' :=
  frame_four.calls (x : Int) _ w rfl
set_option maxRecDepth 100000 in
set_option maxHeartbeats 8000000 in
theorem next_calls (s : ByteArray) (hs : s.size ≤ 281474976710656) (w : World) : Calls Try.prog 12 #[.string s] w fun e w' => e = .returned (nxtV s) ∧ Below w.heap.size w w' := by
  obtain ⟨V, hV⟩ : ∃ V, V = nxt s := ⟨_, rfl⟩
  have HV := Lib.hid hV
  unfold nxt at hV
  have HN := Lib.hid hV
  clear hV
  by_cases h0 : s.size = 0
  · rw [if_pos h0] at HN
    have c0 : (s.toList == ([] : List UInt8)) = true := by rw [(toList_nil s).2 h0]; rfl
    go_enter Try.func12, Try.ntmps12
    go_wp2_with fail
    go_ret3
    exact ⟨by rw [nxtV, ← HV.out, HN.out]; rfl, Below.refl _ _⟩
  · rw [if_neg h0] at HN
    have c0 : (s.toList == ([] : List UInt8)) = false := by
      rw [beq_eq_false_iff_ne]; exact fun h => h0 ((toList_nil s).1 h)
    have c1 : decide (0 < (s.size : Int)) = true := decide_eq_true (by omega)
    have c2 : decide (0 < s.size) = true := decide_eq_true (by omega)
    have hpos : 0 < s.size := by omega
    have hb0 : ((s[0]'hpos).toNat : Int) = bt s 0 := bt_at s 0 hpos
    by_cases hb : bt s 0 = 215
    · rw [if_neg (by simp [hb])] at HN
      have c3 : (bt s 0 == 215) = true := beq_iff_eq.mpr hb
      have c4 : (bt s 0 != 215) = false := bne_eq_false_iff_eq.mpr hb
      have c5 : (1 ≤ (s.size : Int)) = True := eq_true (by omega)
      have c6 : decide (1 ≤ (s.size : Int)) = true := decide_eq_true (by omega)
      have hf := Lib.hid (rdNum_facts (s.extract 1 s.size) 0 16384 (by decide))
      have hsz := Lib.hid (show (s.extract 1 s.size).size = s.size - 1 by rw [ByteArray.size_extract]; omega)
      go_enter Try.func12, Try.ntmps12
      go_wp2_with fail
      clear c0 c1 c2 c3 c4 c5 c6 hb0
      refine (rnew (w0 := w) (s.extract 1 s.size) (Below.refl _ _)).mono ?_
      rintro e w1 ⟨r, rfl, hR, hB, hb2, hr⟩
      have HR1 := Lib.hid hR
      have HB1 := Lib.hid hB
      clear hR hB hb2 hr
      go_wp2_with fail
      refine (rnumber w _ r _ 0 16384 (by decide) (by decide) HR1.out HB1.out).mono ?_
      rintro e w2 ⟨rfl, hR, hB, hk⟩
      have HA : Hid (atOf s = s.size - (hd s).2.1.size) := rfl
      rw [show rdNum (s.extract 1 s.size) 0 16384 = hd s from rfl] at hR hf
      rw [show rdNum (s.extract 1 s.size) 0 16384 = hd s from rfl]
      generalize hd s = qq at *
      obtain ⟨n, t, er⟩ := qq
      dsimp only at *
      have HR2 := Lib.hid hR
      have HB2 := Lib.hid hB
      clear hR hB hk HR1 HB1
      have hn0 := hf.out.1
      have hn1 := hf.out.2.1
      obtain ⟨k, rfl⟩ : ∃ k : Nat, n = (k : Int) := ⟨n.toNat, by omega⟩
      have hts : t.size ≤ s.size - 1 := by have := hf.out.2.2; have := hsz.out; omega
      clear hf hsz
      go_wp2_with fail
      refine (rerr HR2.out HB2.out).mono ?_
      rintro e w3 ⟨rfl, hR, hB, hk⟩
      have HR3 := Lib.hid hR
      have HB3 := Lib.hid hB
      clear hR hB hk HR2 HB2
      by_cases he : er = 0
      · subst he
        rw [if_neg (by simp)] at HN
        simp only [Int.toNat_natCast] at HN
        go_wp2_with fail
        refine (rleft HR3.out HB3.out).mono ?_
        rintro e w4 ⟨rfl, hR, hB, hk⟩
        have HR4 := Lib.hid hR
        have HB4 := Lib.hid hB
        clear hR hB hk HR3 HB3
        obtain ⟨a, hsa⟩ : ∃ a : Nat, s.size = a + t.size := ⟨s.size - t.size, by omega⟩
        have ha : atOf s = a := by rw [HA.out]; omega
        rw [ha] at HN
        have hsub : (s.size : Int) - (t.size : Int) = (a : Int) := by omega
        have ha1 : 1 ≤ a := by omega
        have HSA := Lib.hid hsa
        clear hsa HA ha
        go_wp2_with fail
        refine (rleft HR4.out HB4.out).mono ?_
        rintro e w5 ⟨rfl, hR, hB, hk⟩
        have HB5 := Lib.hid hB
        clear hR hB hk HR4 HB4
        clear hsub
        by_cases hl : t.size < k + 4
        · rw [if_pos hl] at HN
          have c7 : decide ((t.size : Int) < (k : Int) + 4) = true := decide_eq_true (by omega)
          go_wp2_with fail
          go_ret3
          exact ⟨by rw [nxtV, ← HV.out, HN.out]; rfl, HB5.out⟩
        · rw [if_neg hl] at HN
          have c7 : decide ((t.size : Int) < (k : Int) + 4) = false := decide_eq_false (by omega)
          have hak : a + k + 4 ≤ s.size := by have := HSA.out; omega
          obtain ⟨b, hbk⟩ : ∃ b, b = a + k := ⟨_, rfl⟩
          obtain ⟨c, hck⟩ : ∃ c, c = b + 4 := ⟨_, rfl⟩
          rw [← hbk] at HN
          rw [← hck] at HN
          have hw1 : IntKind.i64.wrap ((a : Int) + (k : Int)) = (b : Int) := by rw [IntKind.wrap_i64]; omega
          have hw2 : IntKind.i64.wrap ((b : Int) + 4) = (c : Int) := by rw [IntKind.wrap_i64]; omega
          have d1 : (1 : Int) ≤ (b : Int) := by omega
          have d2 : (b : Int) ≤ (s.size : Int) := by omega
          have d3 : (c : Int) ≤ (s.size : Int) := by omega
          have d4 : (a : Int) ≤ (b : Int) := by omega
          have d5 : (b : Int) ≤ (c : Int) := by omega
          have d6 : (0 : Int) ≤ (a : Int) := by omega
          have d7 : (0 : Int) ≤ (b : Int) := by omega
          have hx : (s.extract 1 b).size ≤ 281474976710656 := by rw [ByteArray.size_extract]; omega
          have HBK := Lib.hid hbk
          have HCK := Lib.hid hck
          clear hbk hck hak
          have hB5 : Below w.heap.size w w5.drew := below_drew1 HB5.out
          go_wp2_with fail
          go_region_held3 (fun w' => Below w.heap.size w w') (first | assumption | exact below_drew1 HB5.out | go_keep) (first | (go_at_call 13; refine (sum_calls (s.extract 1 b) hx _).mono ?_; rintro e w6 ⟨rfl, hB⟩; have hB6 := below_step ‹Below w.heap.size w _› hB; clear hB) | (go_at_call 20; refine (four_calls _ _).mono ?_; rintro e w6 ⟨rfl, hB⟩; have hB6 := below_step ‹Below w.heap.size w _› hB; clear hB))
          have HB6 := Lib.hid hB6
          generalize hu : four (sumN (s.extract 1 b)) = u at *
          clear hu hB6 hB5 HB5
          go_wp2
          · rename_i hc
            have hq : ¬ u = s.extract b c := by rintro rfl; simp at hc
            rw [if_pos hq] at HN
            clear hq
            go_ret3
            exact ⟨by rw [nxtV, ← HV.out, HN.out]; rfl, HB6.out⟩
          · rename_i hc
            have hq : u = s.extract b c := by apply toList_inj.1; simpa using hc
            rw [if_neg (by simpa using hq)] at HN
            clear hq hc
            go_wp2
            go_ret3
            exact ⟨by rw [nxtV, ← HV.out, HN.out]; rfl, HB6.out⟩
      · rw [if_pos he] at HN
        have c7 : (er == 0) = false := beq_eq_false_iff_ne.mpr he
        have c8 : (er != 0) = true := bne_iff_ne.mpr he
        go_wp2_with fail
        go_ret3
        exact ⟨by rw [nxtV, ← HV.out, HN.out]; rfl, HB3.out⟩
    · rw [if_pos hb] at HN
      have c3 : (bt s 0 == 215) = false := beq_eq_false_iff_ne.mpr hb
      have c4 : (bt s 0 != 215) = true := bne_iff_ne.mpr hb
      go_enter Try.func12, Try.ntmps12
      go_wp2_with fail
      go_ret3
      exact ⟨by rw [nxtV, ← HV.out, HN.out]; rfl, Below.refl _ _⟩
end Go.Proofs.Ytapgmedfedcliaa

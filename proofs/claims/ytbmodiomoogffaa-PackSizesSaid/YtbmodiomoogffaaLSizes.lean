/- The walk of PackSizes: a number takes as few bytes as may be. Condition: what the arguments' types demand. -/
import Derived.Test.YtbmodiomoogffaaAw
import Derived.OpenShut
set_option linter.unusedVariables false
set_option linter.unusedSimpArgs false
namespace Go.Proofs.Ytbmodiomoogffaa
open Go.RowKit Go.Proofs.YtbmodiomoogffaaW.PrintWords PRd

set_option maxHeartbeats 4000000 in
theorem csize (n : Int) (h0 : 0 ≤ n) (h1 : n ≤ 18446744073709551615) (w : World) : Calls Try.prog 10 #[.int .u64 n] w fun e w' => e = .returned (.int .i64 ((encB n).size : Int)) ∧ Below w.heap.size w w' := by
  have HW1 := Lib.hid (IsS27.made w w (Nat.le_refl _))
  have HB1 := Lib.hid (below_alloc' (Below.refl w.heap.size w) (.cells #[.slice none 0 0] 27))
  have hsz := encB_size h1
  go_enter Try.func10, Try.ntmps10
  go_wp2_with fail
  generalize hg : w.heap.size = g at HW1 ⊢
  clear hg
  refine (wnum w _ g _ n h0 h1 HW1.out HB1.out (by decide)).mono ?_
  rintro e w2 ⟨rfl, hW, hB, hk⟩
  have HW2 := Lib.hid hW
  have HB2 := Lib.hid hB
  clear hW hB hk HW1 HB1
  go_wp2_with fail
  refine (wbytes w _ g _ HW2.out HB2.out).mono ?_
  rintro e w3 ⟨rfl, hW, hB, hk⟩
  have HB3 := Lib.hid hB
  clear hW hB hk HW2 HB2
  go_wp2
  go_ret
  exact ⟨by simp, HB3.out⟩
theorem byteLen_zero : byteLen 0 = 0 := by decide
theorem byteLen_div (m : Nat) (h64 : m < 2 ^ 64) (h : 1 ≤ m) : byteLen m = byteLen (m / 256) + 1 := by
  obtain ⟨h1, h2⟩ := byteLen_lt h64 h
  obtain ⟨k, hk⟩ : ∃ k, byteLen m = k + 1 := ⟨byteLen m - 1, by have := byteLen_range h64 h; omega⟩
  rw [hk] at h1 h2 ⊢
  have h8 := (byteLen_range h64 h).2
  rw [Nat.add_sub_cancel] at h2
  rcases k with _ | k
  · have : m / 256 = 0 := by simp at h1; omega
    rw [this, byteLen_zero]
  · rw [byteLen_eq (x := m / 256) (k := k) (by omega)]
    · rw [Nat.le_div_iff_mul_le (by decide)]; rw [Nat.pow_succ] at h2; exact h2
    · rw [Nat.div_lt_iff_lt_mul (by decide)]; rw [Nat.pow_succ] at h1; exact h1
theorem byteLen_mono (m k : Nat) (h64 : k < 2 ^ 64) (h : m ≤ k) : byteLen m ≤ byteLen k := by
  rcases Nat.eq_zero_or_pos k with h0 | h0
  · have : m = 0 := by omega
    rw [this, h0]; exact Nat.le_refl _
  · exact byteLen_le (byteLen_range h64 h0).2 (Nat.lt_of_le_of_lt h (byteLen_lt h64 h0).1)
theorem encB_len (n : Int) : (encB n).size = if n < 248 then 1 else 1 + byteLen n.toNat := by
  unfold encB
  rw [size_nums]
  unfold encN
  split
  · rfl
  · rw [List.length_cons, beTo_length]; omega
theorem encB_mono (a b : Int) (h0 : 0 ≤ a) (h1 : b ≤ 18446744073709551615) (h : a ≤ b) : (encB a).size ≤ (encB b).size := by
  rw [encB_len, encB_len]
  split
  · split <;> omega
  · rw [if_neg (by omega)]
    have := byteLen_mono a.toNat b.toNat (by omega) (by omega)
    omega
set_option maxRecDepth 100000 in
set_option maxHeartbeats 4000000 in
theorem sizes_calls (a b : Int) (ha : 0 ≤ a ∧ a ≤ 18446744073709551615) (hb : 0 ≤ b ∧ b ≤ 18446744073709551615) (w : World) :
    Calls Try.prog 3 #[.int .u64 a, .int .u64 b] w fun e w' => e = .returned (.bool true) ∧ Below w.heap.size w w' := by
  have HA := Lib.hid (awake_calls w w (Below.refl _ _))
  go_enter Try.func3, Try.ntmps3
  go_wp2_with fail
  refine HA.out.mono ?_
  rintro e w1 ⟨rfl, hB⟩
  have HB1 := Lib.hid hB
  clear hB HA
  rcases (show 247 < a ∨ a ≤ 247 by omega) with hbig | hbig
  · obtain ⟨n, rfl⟩ : ∃ n : Nat, a = (n : Int) := ⟨a.toNat, by omega⟩
    have hsa : (encB (n : Int)).size = 1 + byteLen n := by rw [encB_len, if_neg (by omega), Int.toNat_natCast]
    have hn64 : n < 2 ^ 64 := by omega
    have h8 := (byteLen_range hn64 (by omega)).2
    go_wp2_with fail
    go_loopg [6, 7] (byteLen n + 1) (fun gk v6 v7 wr => ∃ (m : Nat), m ≤ n ∧ v7 = .int .u64 (m : Int) ∧ v6 = .int .i64 (1 + ((byteLen n : Int) - (byteLen m : Int))) ∧ Aside0 (gk = byteLen m + 1) ∧ Aside0 (Below w.heap.size w wr))
    case atStart => exact ⟨n, Nat.le_refl _, rfl, by go_num, ⟨rfl⟩, ⟨HB1.out⟩⟩
    case round =>
      obtain ⟨m, hm, rfl, rfl, ⟨hgk⟩, ⟨hbw⟩⟩ := hrel
      have HBR := Lib.hid hbw
      clear hbw
      rcases (show 1 ≤ m ∨ m = 0 by omega) with h1 | h1
      · have hd := byteLen_div m (by omega) h1
        have hm2 : m / 256 ≤ m := Nat.div_le_self _ _
        have hcn : byteLen m ≤ byteLen n := byteLen_mono m n hn64 hm
        have Hc := Lib.hid (show byteLen (m / 256) = byteLen (m / 256) from rfl)
        generalize hc : byteLen (m / 256) = c at hd
        have HC := Lib.hid hc
        clear hc Hc
        rw [hd] at hgk hcn ⊢
        have HD := Lib.hid hd
        clear hd hsa
        generalize byteLen n = k at *
        subst hgk
        go_wp2
        go_roundg (c + 1)
        case measure => omega
        case rel => exact ⟨m / 256, by omega, by push_cast; rfl, by rw [HC.out]; go_num, ⟨by rw [HC.out]⟩, ⟨HBR.out⟩⟩
      · subst h1
        rw [byteLen_zero] at hgk ⊢
        rw [show ((0 : Nat) : Int) = 0 from rfl, Int.sub_zero]
        have hsi : ((encB (n : Int)).size : Int) = 1 + (byteLen n : Int) := by rw [hsa]; push_cast; rfl
        clear hsa
        generalize byteLen n = k at *
        have hab : (n : Int) ≤ b → ((encB (n : Int)).size : Int) ≤ ((encB b).size : Int) := fun h => by have := encB_mono (n : Int) b ha.1 hb.2 h; omega
        have KA := Lib.hid (fun w => csize (n : Int) ha.1 ha.2 w)
        have KB := Lib.hid (fun w => csize b hb.1 hb.2 w)
        generalize (encB (n : Int)).size = sa at *
        generalize (encB b).size = sb at *
        go_wp2_with fail
        refine (KA.out _).mono ?_
        rintro e w2 ⟨rfl, hB⟩
        have HB2 := Lib.hid (below_step HBR.out hB)
        clear hB
        rcases (show b < (n : Int) ∨ (n : Int) ≤ b by omega) with hlt | hlt
        · go_wp2
          go_ret
          exact ⟨rfl, HB2.out⟩
        · have hle := hab hlt
          clear hab
          go_wp2_with fail
          refine (KA.out _).mono ?_
          rintro e w3 ⟨rfl, hB⟩
          have HB3 := Lib.hid (below_step HB2.out hB)
          clear hB HB2
          go_wp2_with fail
          refine (KB.out _).mono ?_
          rintro e w4 ⟨rfl, hB⟩
          have HB4 := Lib.hid (below_step HB3.out hB)
          clear hB HB3
          go_wp2
          go_ret
          refine ⟨?_, HB4.out⟩
          simp
          omega
  · have hsa : (encB a).size = 1 := by rw [encB_len, if_pos (by omega)]
    have hab : a ≤ b → ((encB a).size : Int) ≤ ((encB b).size : Int) := fun h => by have := encB_mono a b ha.1 hb.2 h; omega
    have KA := Lib.hid (fun w => csize a ha.1 ha.2 w)
    have KB := Lib.hid (fun w => csize b hb.1 hb.2 w)
    generalize (encB a).size = sa at *
    generalize (encB b).size = sb at *
    go_wp2_with fail
    refine (KA.out _).mono ?_
    rintro e w2 ⟨rfl, hB⟩
    have HB2 := Lib.hid (below_step HB1.out hB)
    clear hB
    rcases (show b < a ∨ a ≤ b by omega) with hlt | hlt
    · go_wp2
      go_ret
      exact ⟨rfl, HB2.out⟩
    · have hle := hab hlt
      clear hab
      go_wp2_with fail
      refine (KA.out _).mono ?_
      rintro e w3 ⟨rfl, hB⟩
      have HB3 := Lib.hid (below_step HB2.out hB)
      clear hB HB2
      go_wp2_with fail
      refine (KB.out _).mono ?_
      rintro e w4 ⟨rfl, hB⟩
      have HB4 := Lib.hid (below_step HB3.out hB)
      clear hB HB3
      go_wp2
      go_ret
      refine ⟨?_, HB4.out⟩
      simp
      omega
theorem walk_PackSizes (a b : Int) (w0 : (Lit.int .u64 a).wf = true) (w1 : (Lit.int .u64 b).wf = true) (w : World) :
    Calls Try.prog 3 #[.int .u64 a, .int .u64 b] w fun e w' => e = .returned (.bool true) ∧ Below w.heap.size w w' :=
  sizes_calls a b (Go.bounds_u64 w0) (Go.bounds_u64 w1) w
end Go.Proofs.Ytbmodiomoogffaa

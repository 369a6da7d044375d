/- The walk of PackCuts: of what was written no beginning is read whole. Condition: what the argument's type demands. -/
import Derived.Test.YtbmodiomoogffaaCu
import Derived.Test.YtbmodiomoogffaaSt
import Derived.OpenShut
set_option linter.unusedVariables false
set_option linter.unusedSimpArgs false
namespace Go.Proofs.Ytbmodiomoogffaa
open Go.RowKit Go.Deep Go.Proofs.YtbmodiomoogffaaW.PrintWords PRd
-- ZERO 0 .agg #[.int .u64 0, .string ByteArray.empty, .int .u64 0, .int .u32 0, .int .i64 0]

set_option maxHeartbeats 8000000 in
theorem cuts_calls (n : Int) (s : ByteArray) (p l c : Int) (hn : 0 ≤ n ∧ n ≤ 18446744073709551615) (hs : s.size ≤ 9223372036854775807) (hp : 0 ≤ p ∧ p ≤ 18446744073709551615) (hl : 0 ≤ l ∧ l ≤ 4294967295) (hc : -9223372036854775808 ≤ c ∧ c ≤ 9223372036854775807) (w : World) :
    Calls Try.prog 5 #[.agg #[.int .u64 n, .string s, .int .u64 p, .int .u32 l, .int .i64 c]] w fun e w' => e = .returned (.bool true) ∧ Below w.heap.size w w' := by
  obtain ⟨w0, hw0⟩ : ∃ w0, w0 = w := ⟨_, rfl⟩
  rw [← hw0]
  clear hw0
  obtain ⟨w1, hw1⟩ : ∃ w1, w1 = w0.alloc (.cells #[.int .u64 n, .string s, .int .u64 p, .int .u32 l, .int .i64 c] 45) := ⟨_, rfl⟩
  have hbx : w1.heap[w0.heap.size]? = some (.cells #[.int .u64 n, .string s, .int .u64 p, .int .u32 l, .int .i64 c] 45 (0, 0)) := by rw [hw1]; exact heap_alloc_new w0 _
  have hb1 : Below w0.heap.size w0 w1 := by rw [hw1]; exact below_alloc' (Below.refl _ _) _
  have HA := Lib.hid (awake_calls w1 w1 (Below.refl _ _))
  have Hw1 := Lib.hid hw1
  have HX1 := Lib.hid hbx
  have HB1 := Lib.hid hb1
  clear hw1 hbx hb1
  go_enter Try.func5, Try.ntmps5
  go_wp2_with fail
  rw [← Hw1.out]
  clear Hw1
  refine HA.out.mono ?_
  rintro e w2 ⟨rfl, hB⟩
  have hX2 := (hB.block w0.heap.size (Array.getElem?_eq_some_iff.1 HX1.out).1).trans HX1.out
  have HB2 := Lib.hid (below_step HB1.out hB)
  generalize hx : w0.heap.size = x at hX2 ⊢
  have Hx := Lib.hid hx
  clear hx
  have cx0 : w2.cell? ⟨x, 0, none⟩ = some (.int .u64 n) := (blk_cell hX2 0).trans rfl
  have cx1 : w2.cell? ⟨x, 1, none⟩ = some (.string s) := (blk_cell hX2 1).trans rfl
  have cx2 : w2.cell? ⟨x, 2, none⟩ = some (.int .u64 p) := (blk_cell hX2 2).trans rfl
  have cx3 : w2.cell? ⟨x, 3, none⟩ = some (.int .u32 l) := (blk_cell hX2 3).trans rfl
  have cx4 : w2.cell? ⟨x, 4, none⟩ = some (.int .i64 c) := (blk_cell hX2 4).trans rfl
  have fx0 := blk_frozen hX2 0
  have fx1 := blk_frozen hX2 1
  have fx2 := blk_frozen hX2 2
  have fx3 := blk_frozen hX2 3
  have fx4 := blk_frozen hX2 4
  have HX2 := Lib.hid hX2
  have hlt2 := (Array.getElem?_eq_some_iff.1 hX2).1
  have hne2 : w2.heap.size ≠ x := by omega
  have hne3 : x ≠ w2.heap.size := by omega
  clear hX2 hB HA HX1 HB1
  by_cases hg : 400 < s.size ∨ 281474976710656 < p ∨ 4095 < l
  · go_wp2_with fail
    all_goals go_region
    all_goals go_wp2_with fail
    all_goals go_ret
    all_goals exact ⟨rfl, below_drew1 (below_alloc' HB2.out _)⟩
  · have hg1 : s.size ≤ 400 := by omega
    have hg2 : p ≤ 281474976710656 := by omega
    have hg3 : l ≤ 4095 := by omega
    have hn1 := encB_size (n := n) (by omega)
    have hn2 := encB_size (n := (s.size : Int)) (by omega)
    have hn3 := encB_size (n := p) (by omega)
    have hn4 := encB_size (n := l) (by omega)
    have hsz : (w2.alloc (.cells #[.int .u64 p, .int .u32 l] 43)).heap.size = w2.heap.size + 1 := by simp
    have hW3 := IsS27.made w0 (w2.alloc (.cells #[.int .u64 p, .int .u32 l] 43)) (below_alloc' HB2.out _).size
    have hb4 : Below w2.heap.size w2 ((w2.alloc (.cells #[.int .u64 p, .int .u32 l] 43)).alloc (.cells #[.slice none 0 0] 27)) := below_alloc (below_alloc (Below.refl _ _) _) _
    have HX3 := Lib.hid (show ((w2.alloc (.cells #[.int .u64 p, .int .u32 l] 43)).alloc (.cells #[.slice none 0 0] 27)).drew.heap[x]? = some _ from (hb4.block x hlt2).trans HX2.out)
    have hT3 : (w2.alloc (.cells #[.int .u64 p, .int .u32 l] 43)).heap[w2.heap.size]? = some (.cells #[.int .u64 p, .int .u32 l] 43 (0, 0)) := heap_alloc_new w2 _
    have HT3 := Lib.hid (show ((w2.alloc (.cells #[.int .u64 p, .int .u32 l] 43)).alloc (.cells #[.slice none 0 0] 27)).drew.heap[w2.heap.size]? = some _ from ((below_alloc (Below.refl (w2.alloc (.cells #[.int .u64 p, .int .u32 l] 43)).heap.size _) (.cells #[.slice none 0 0] 27)).block w2.heap.size (by omega)).trans hT3)
    have HB3 := Lib.hid (below_drew1 <| below_alloc' (below_alloc' HB2.out (.cells #[.int .u64 p, .int .u32 l] 43)) (.cells #[.slice none 0 0] 27))
    rw [hsz] at hW3
    have HW3 := Lib.hid hW3.drew
    clear hg hW3 hb4 hT3 hsz
    go_wp2_with fail
    go_region
    go_wp2_with fail
    clear cx0 cx1 cx2 cx3 cx4 fx0 fx1 fx2 fx3 fx4 HX2 HB2
    generalize w2.heap.size + 1 = g at *
    generalize w2.heap.size = t at *
    refine (wnum w0 _ g _ n hn.1 hn.2 HW3.out HB3.out (by simp only [ByteArray.size_append, ByteArray.size_empty]; omega)).mono ?_
    rintro e w4 ⟨rfl, hW, hB, hk⟩
    have HW4 := Lib.hid hW
    have HB4 := Lib.hid hB
    have HX4 := Lib.hid (blk_keepW hk HW3.out HX3.out (by decide) (by decide))
    have HT4 := Lib.hid (blk_keepW hk HW3.out HT3.out (by decide) (by decide))
    clear HX3 HT3
    clear hW hB hk HW3 HB3
    go_wp2_with fail
    refine (wtext w0 _ g _ s HW4.out HB4.out (by simp only [ByteArray.size_append, ByteArray.size_empty]; omega)).mono ?_
    rintro e w5 ⟨rfl, hW, hB, hk⟩
    have HW5 := Lib.hid hW
    have HB5 := Lib.hid hB
    have HX5 := Lib.hid (blk_keepW hk HW4.out HX4.out (by decide) (by decide))
    have HT5 := Lib.hid (blk_keepW hk HW4.out HT4.out (by decide) (by decide))
    clear HX4 HT4
    clear hW hB hk HW4 HB4
    have ct0 : w5.cell? ⟨t, 0, none⟩ = some (.int .u64 p) := (blk_cell HT5.out 0).trans rfl
    have ft0 := blk_frozen HT5.out 0
    have ct1 : w5.cell? ⟨t, 1, none⟩ = some (.int .u32 l) := (blk_cell HT5.out 1).trans rfl
    have ft1 := blk_frozen HT5.out 1
    go_wp2_with fail
    clear ct0 ct1 ft0 ft1
    refine (wstamp w0 _ g _ p l ⟨hp.1, by omega⟩ ⟨hl.1, by omega⟩ HW5.out HB5.out (by simp only [ByteArray.size_append, ByteArray.size_empty]; omega)).mono ?_
    rintro e w6 ⟨rfl, hW, hB, hk⟩
    have HW6 := Lib.hid hW
    have HB6 := Lib.hid hB
    clear HX5 HT5
    clear hW hB hk HW5 HB5
    go_wp2_with fail
    refine (wbytes w0 _ g _ HW6.out HB6.out).mono ?_
    rintro e w7 ⟨rfl, hW, hB, hk⟩
    have HW7 := Lib.hid hW
    have HB7 := Lib.hid hB
    clear hW hB hk HW6 HB6
    clear HW7 hne2 hne3 hlt2
    generalize hA : ByteArray.empty ++ encB n ++ encB s.size ++ s ++ encB p ++ encB l = A at *
    have hAs : A.size ≤ 500 := by rw [← hA]; simp only [ByteArray.size_append, ByteArray.size_empty]; omega
    clear hn1 hn2 hn3 hn4
    by_cases hcut : c < 0 ∨ (A.size : Int) ≤ c
    · go_wp2_with fail
      all_goals go_ret
      all_goals exact ⟨rfl, HB7.out⟩
    · have hc0 : 0 ≤ c := by omega
      have hc1 : c < (A.size : Int) := by omega
      obtain ⟨a, ha⟩ : ∃ a, a = A.extract 0 c.toNat := ⟨_, rfl⟩
      obtain ⟨n1, s1, e1, t1, s2, e2, p1, q1, r1, r2, r3, r4⟩ := cuts n p l s a (A.extract c.toNat A.size) hn hg1 ⟨hp.1, hg2⟩ ⟨hl.1, hg3⟩ (by rw [ha, ← extract_both, ← hA, ByteArray.empty_append]) (by rw [ByteArray.size_extract]; omega)
      have hs1 : s1.size ≤ 9223372036854775807 := by
        have : a.size ≤ A.size := by rw [ha, ByteArray.size_extract]; omega
        omega
      have R1 := Lib.hid r1
      have R2 := Lib.hid r2
      have R3 := Lib.hid r3
      have Ha := Lib.hid ha
      clear r1 r2 r3 r4 ha hcut hA
      go_wp2_with fail
      rw [← Ha.out]
      refine (rnew _ HB7.out).mono ?_
      rintro e w8 ⟨r, rfl, hR, hB, hb, hr⟩
      have HR8 := Lib.hid hR
      have HB8 := Lib.hid hB
      clear hR hB hb hr HB7
      go_wp2_with fail
      refine (rnumber w0 _ r _ 0 M64 (by decide) (by decide) HR8.out HB8.out).mono ?_
      rw [R1.out]
      rintro e w9 ⟨rfl, hR, hB, hk⟩
      have HR9 := Lib.hid hR
      have HB9 := Lib.hid hB
      clear hR hB hk HR8 HB8
      go_wp2_with fail
      refine (rtext 0 400 HR9.out HB9.out hs1 (by decide) (by decide)).mono ?_
      rw [R2.out]
      rintro e w10 ⟨rfl, hR, hB, hk⟩
      have HR10 := Lib.hid hR
      have HB10 := Lib.hid hB
      clear hR hB hk HR9 HB9
      go_wp2_with fail
      refine (rstamp HR10.out HB10.out).mono ?_
      rw [R3.out]
      rintro e w11 ⟨rfl, hR, hB, hk⟩
      have HR11 := Lib.hid hR
      have HB11 := Lib.hid hB
      clear hR hB hk HR10 HB10
      go_wp2_with fail
      refine (rerr HR11.out HB11.out).mono ?_
      rintro e w12 ⟨rfl, hR, hB, hk⟩
      have HR12 := Lib.hid hR
      have HB12 := Lib.hid hB
      clear hR hB hk HR11 HB11
      go_wp2_with fail
      refine (rend HR12.out HB12.out).mono ?_
      rintro e w13 ⟨rfl, hR, hB, hk⟩
      have HR13 := Lib.hid hR
      have HB13 := Lib.hid hB
      clear hR hB hk HR12 HB12
      go_wp2_with fail
      refine (rleft HR13.out HB13.out).mono ?_
      rintro e w14 ⟨rfl, hR, hB, hk⟩
      have HB14 := Lib.hid hB
      clear hR hB hk HR13 HB13
      go_wp2
      go_ret
      exact ⟨rfl, HB14.out⟩

theorem walk_PackCuts {H : Type} {enc : TypeId × Value → H} (W : World) (v0 : Value) (d0 : DataW H) (p0 : List MemPlace)
    (h0 : DataW.Trod enc Try.prog W 0 (fun _ => true) true 45 v0 d0 p0) {base : Nat} (u0 : Value.okWide Try.prog W .any base 45 v0) (z0 : ∀ n ∈ DataW.weights Try.prog 45 d0, n ≤ reachBytes) :
    Calls Try.prog 5 #[v0] W fun e w' => e = .returned (.bool true) ∧ Below W.heap.size W w' := by
  obtain ⟨cs, rfl, _⟩ := WideShapes.okWide_struct Try.underlying45 u0
  obtain ⟨fuel, hf⟩ := h0
  obtain ⟨a, hk, hq⟩ := open_S45 fuel _ _ hf
  obtain ⟨_, q0, q1, q2, q3, q4⟩ := hq
  obtain ⟨n, s, p, l, c⟩ := a
  have hk2 : cs.toList = [.int .u64 n, .string s, .int .u64 p, .int .u32 l, .int .i64 c] := hk
  have e : cs = #[.int .u64 n, .string s, .int .u64 p, .int .u32 l, .int .i64 c] := by cases cs; simp_all
  rw [e]
  have w0 := Go.bounds_u64 q0
  have w2 := Go.bounds_u64 q2
  have w3 := Go.bounds_u32 q3
  have w4 := Go.bounds_i64 q4
  refine cuts_calls n s p l c w0 ?_ w2 w3 w4 W
  have : s.size ≤ maxLen := q1
  simpa [maxLen] using this
end Go.Proofs.Ytbmodiomoogffaa

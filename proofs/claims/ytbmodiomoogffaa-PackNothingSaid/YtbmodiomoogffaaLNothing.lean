/- The walk of PackNothing: nothing is written by nobody, and nothing read. Condition: what the arguments' types demand. -/
import Derived.Test.YtbmodiomoogffaaNl
import Derived.OpenShut
set_option linter.unusedVariables false
set_option linter.unusedSimpArgs false
namespace Go.Proofs.Ytbmodiomoogffaa
open Go.RowKit Go.Deep Go.Proofs.YtbmodiomoogffaaW.PrintWords PRd
-- ZERO 2 .agg #[.int .u64 0, .int .u32 0]

set_option maxHeartbeats 8000000 in
theorem nothing_calls (n : Int) (s : ByteArray) (p l : Int) (w : World) :
    Calls Try.prog 8 #[.int .u64 n, .string s, .agg #[.int .u64 p, .int .u32 l]] w fun e w' => e = .returned (.bool true) ∧ Below w.heap.size w w' := by
  obtain ⟨w1, hw1⟩ : ∃ w1, w1 = w.alloc (.cells #[.int .u64 p, .int .u32 l] 43) := ⟨_, rfl⟩
  have hbx : w1.heap[w.heap.size]? = some (.cells #[.int .u64 p, .int .u32 l] 43 (0, 0)) := by rw [hw1]; exact heap_alloc_new w _
  have hb1 : Nob w w1 := by rw [hw1]; exact below_alloc (Below.refl _ _) _
  have HA := Lib.hid (awake_calls w1 w1 (Below.refl _ _))
  have Hw1 := Lib.hid hw1
  have HX1 := Lib.hid hbx
  have HB1 := Lib.hid hb1
  clear hw1 hbx hb1
  go_enter Try.func8, Try.ntmps8
  go_wp2_with fail
  rw [← Hw1.out]
  clear Hw1
  refine HA.out.mono ?_
  rintro e w2 ⟨rfl, hB⟩
  have hlt1 := (Array.getElem?_eq_some_iff.1 HX1.out).1
  have HX2 := Lib.hid ((hB.block w.heap.size hlt1).trans HX1.out)
  have HB2 := Lib.hid (nob_trans HB1.out hB)
  clear hB HA HB1
  go_wp2_with fail
  refine (nil_wnum _ _).mono ?_
  rintro e w3 ⟨rfl, hB⟩
  have HX3 := Lib.hid ((hB.block w.heap.size (Array.getElem?_eq_some_iff.1 HX2.out).1).trans HX2.out)
  have HB3 := Lib.hid (nob_trans HB2.out hB)
  clear hB HB2
  go_wp2_with fail
  refine (nil_wtext _ _).mono ?_
  rintro e w4 ⟨rfl, hB⟩
  have hX4 := (hB.block w.heap.size (Array.getElem?_eq_some_iff.1 HX3.out).1).trans HX3.out
  have cx0 : w4.cell? ⟨w.heap.size, 0, none⟩ = some (.int .u64 p) := (blk_cell hX4 0).trans rfl
  have cx1 : w4.cell? ⟨w.heap.size, 1, none⟩ = some (.int .u32 l) := (blk_cell hX4 1).trans rfl
  have HB4 := Lib.hid (nob_trans HB3.out hB)
  clear hB HB3 hX4 HX1 HX2 HX3 hlt1
  go_wp2_with fail
  clear cx0 cx1
  refine (nil_wstamp _ _ _).mono ?_
  rintro e w5 ⟨rfl, hB⟩
  have HB5 := Lib.hid (nob_trans HB4.out hB)
  clear hB HB4
  go_wp2_with fail
  refine (nil_wflag _).mono ?_
  rintro e w6 ⟨rfl, hB⟩
  have HB6 := Lib.hid (nob_trans HB5.out hB)
  clear hB HB5
  go_wp2_with fail
  refine (nil_wbytes _).mono ?_
  rintro e w7 ⟨rfl, hB⟩
  have HB7 := Lib.hid (nob_trans HB6.out hB)
  clear hB HB6
  go_wp2_with fail
  refine (nil_rnum _ _).mono ?_
  rintro e w8 ⟨rfl, hB⟩
  have HB8 := Lib.hid (nob_trans HB7.out hB)
  clear hB HB7
  go_wp2_with fail
  refine (nil_rtext _ _ _).mono ?_
  rintro e w9 ⟨rfl, hB⟩
  have HB9 := Lib.hid (nob_trans HB8.out hB)
  clear hB HB8
  go_wp2_with fail
  refine (nil_rflag _).mono ?_
  rintro e w10 ⟨rfl, hB⟩
  have HB10 := Lib.hid (nob_trans HB9.out hB)
  clear hB HB9
  go_wp2_with fail
  refine (nil_rstamp _).mono ?_
  rintro e w11 ⟨rfl, hB⟩
  have HB11 := Lib.hid (nob_trans HB10.out hB)
  clear hB HB10
  go_wp2_with fail
  refine (nil_rcount 9 _).mono ?_
  rintro e w12 ⟨rfl, hB⟩
  have HB12 := Lib.hid (nob_trans HB11.out hB)
  clear hB HB11
  go_wp2_with fail
  refine (nil_rleft _).mono ?_
  rintro e w13 ⟨rfl, hB⟩
  have HB13 := Lib.hid (nob_trans HB12.out hB)
  clear hB HB12
  go_wp2_with fail
  refine (nil_rerr _).mono ?_
  rintro e w14 ⟨rfl, hB⟩
  have HB14 := Lib.hid (nob_trans HB13.out hB)
  clear hB HB13
  go_wp2_with fail
  refine (nil_rend _).mono ?_
  rintro e w15 ⟨rfl, hB⟩
  have HB15 := Lib.hid (nob_trans HB14.out hB)
  clear hB HB14
  go_wp2
  go_ret
  exact ⟨rfl, HB15.out⟩

theorem walk_PackNothing {H : Type} {enc : TypeId × Value → H} (W : World) (a0 : Int) (a1 : ByteArray) (v2 : Value) (d2 : DataW H) (p2 : List MemPlace) (w0 : (Lit.int .u64 a0).wf = true) (w1 : a1.size ≤ 140737488351232)
    (h2 : DataW.Trod enc Try.prog W 0 (fun _ => true) true 43 v2 d2 p2) {base : Nat} (u2 : Value.okWide Try.prog W .any base 43 v2) (z2 : ∀ n ∈ DataW.weights Try.prog 43 d2, n ≤ reachBytes) :
    Calls Try.prog 8 #[.int .u64 a0, .string a1, v2] W fun e w' => e = .returned (.bool true) ∧ Below W.heap.size W w' := by
  obtain ⟨cs, rfl, _⟩ := WideShapes.okWide_struct Try.underlying43 u2
  obtain ⟨fuel, hf⟩ := h2
  obtain ⟨a, hk, hq⟩ := open_S43 fuel _ _ hf
  obtain ⟨p, l⟩ := a
  have hk2 : cs.toList = [.int .u64 p, .int .u32 l] := hk
  have e : cs = #[.int .u64 p, .int .u32 l] := by cases cs; simp_all
  rw [e]
  exact nothing_calls a0 a1 p l W
end Go.Proofs.Ytbmodiomoogffaa

/- A nil Writer and a nil Reader. No condition. -/
import Derived.Test.YtbmodiomoogffaaSt
set_option linter.unusedVariables false
set_option linter.unusedSimpArgs false
namespace Go.Proofs.Ytbmodiomoogffaa
open Go.RowKit Go.Deep Go.Proofs.YtbmodiomoogffaaW.PrintWords PRd

/-- What is done with nobody leaves all that was as it was. -/
abbrev Nob (w w' : World) : Prop := Below w.heap.size w w'
theorem nob_trans {w w1 w2 : World} (h : Nob w w1) (k : Nob w1 w2) : Nob w w2 := below_step h k

theorem nil_wnum (n : Int) (w : World) : Calls Try.prog 11 #[.pointer none, .int .u64 n] w fun e w' => e = .returned (.tuple #[]) ∧ Nob w w' := by
  go_enter Try.func11, Try.ntmps11
  go_wp2
  first | go_end0 | ((try simp only [Exit.inBlock, Exit.then]); refine bodyPost_ret (results_none rfl _ _ _) rfl ?_)
  exact ⟨rfl, Below.refl _ _⟩
theorem nil_wtext (s : ByteArray) (w : World) : Calls Try.prog 13 #[.pointer none, .string s] w fun e w' => e = .returned (.tuple #[]) ∧ Nob w w' := by
  go_enter Try.func13, Try.ntmps13
  go_wp2_with fail
  refine (nil_wnum _ _).mono ?_
  rintro e w1 ⟨rfl, hb⟩
  have HB := Lib.hid hb
  clear hb
  go_wp2
  go_end0
  exact ⟨rfl, HB.out⟩
theorem nil_wstamp (p l : Int) (w : World) : Calls Try.prog 19 #[.pointer none, .agg #[.int .u64 p, .int .u32 l]] w fun e w' => e = .returned (.tuple #[]) ∧ Nob w w' := by
  go_enter Try.func19, Try.ntmps19
  go_wp2_with fail
  refine (nil_wnum _ _).mono ?_
  rintro e w1 ⟨rfl, hb⟩
  have hbk : w1.heap[w.heap.size]? = some (.cells #[.int .u64 p, .int .u32 l] 43 (0, 0)) := (hb.block w.heap.size (by simp)).trans (heap_alloc_new w _)
  have c1 : w1.cell? ⟨w.heap.size, 1, none⟩ = some (.int .u32 l) := (blk_cell hbk 1).trans rfl
  have HB := Lib.hid (nob_trans (below_alloc (Below.refl _ _) _) hb)
  clear hb hbk
  go_wp2_with fail
  refine (nil_wnum _ _).mono ?_
  rintro e w2 ⟨rfl, hb⟩
  have HB2 := Lib.hid (nob_trans HB.out hb)
  clear hb
  go_wp2
  go_end0
  exact ⟨rfl, HB2.out⟩
theorem nil_wflag (w : World) : Calls Try.prog 25 #[.pointer none, .bool true] w fun e w' => e = .returned (.tuple #[]) ∧ Nob w w' := by
  go_enter Try.func25, Try.ntmps25
  go_wp2_with fail
  refine (nil_wnum _ _).mono ?_
  rintro e w1 ⟨rfl, hb⟩
  have HB := Lib.hid hb
  clear hb
  go_wp2
  go_end0
  exact ⟨rfl, HB.out⟩
theorem nil_wbytes (w : World) : Calls Try.prog 12 #[.pointer none] w fun e w' => e = .returned (.string ⟨#[]⟩) ∧ Nob w w' := by
  go_enter Try.func12, Try.ntmps12
  go_wp2
  go_ret
  exact ⟨rfl, Below.refl _ _⟩
set_option maxRecDepth 100000 in
theorem nil_rnum (m : Int) (w : World) : Calls Try.prog 20 #[.pointer none, .int .u64 m] w fun e w' => e = .returned (.int .u64 0) ∧ Nob w w' := by
  go_enter Try.func20, Try.ntmps20
  go_wp2
  refine wp_scope_many (fun _ _ _ _ => False) ?_ (fun _ _ _ _ h => h.elim)
  go_wp2
  simp only [jumps_ret]
  go_ret
  exact ⟨rfl, Below.refl _ _⟩
theorem nil_rerr (w : World) : Calls Try.prog 18 #[.pointer none] w fun e w' => e = .returned (.int .i64 1) ∧ Nob w w' := by
  go_enter Try.func18, Try.ntmps18
  go_wp2
  go_ret
  exact ⟨rfl, Below.refl _ _⟩
theorem nil_rleft (w : World) : Calls Try.prog 22 #[.pointer none] w fun e w' => e = .returned (.int .i64 0) ∧ Nob w w' := by
  go_enter Try.func22, Try.ntmps22
  go_wp2
  go_ret
  exact ⟨rfl, Below.refl _ _⟩
theorem nil_rtext (lo hi : Int) (w : World) : Calls Try.prog 16 #[.pointer none, .int .i64 lo, .int .i64 hi] w fun e w' => e = .returned (.string ⟨#[]⟩) ∧ Nob w w' := by
  go_enter Try.func16, Try.ntmps16
  go_wp2_with fail
  refine (nil_rnum _ _).mono ?_
  rintro e w1 ⟨rfl, hb⟩
  have HB := Lib.hid hb
  clear hb
  go_wp2_with fail
  refine (nil_rerr _).mono ?_
  rintro e w2 ⟨rfl, hb⟩
  have HB2 := Lib.hid (nob_trans HB.out hb)
  clear hb
  go_wp2
  go_ret
  exact ⟨rfl, HB2.out⟩
theorem nil_rflag (w : World) : Calls Try.prog 28 #[.pointer none] w fun e w' => e = .returned (.bool false) ∧ Nob w w' := by
  go_enter Try.func28, Try.ntmps28
  go_wp2_with fail
  refine (nil_rerr _).mono ?_
  rintro e w2 ⟨rfl, hb⟩
  have HB2 := Lib.hid hb
  clear hb
  go_wp2
  go_ret
  exact ⟨rfl, HB2.out⟩
theorem nil_rcount (m : Int) (w : World) : Calls Try.prog 15 #[.pointer none, .int .i64 9] w fun e w' => e = .returned (.int .i64 0) ∧ Nob w w' := by
  go_enter Try.func15, Try.ntmps15
  go_wp2_with fail
  refine (nil_rnum _ _).mono ?_
  rintro e w2 ⟨rfl, hb⟩
  have HB2 := Lib.hid hb
  clear hb
  go_wp2
  go_ret
  exact ⟨rfl, HB2.out⟩
theorem nil_rend (w : World) : Calls Try.prog 17 #[.pointer none] w fun e w' => e = .returned (.int .i64 1) ∧ Nob w w' := by
  go_enter Try.func17, Try.ntmps17
  go_wp2_with fail
  refine (nil_rerr _).mono ?_
  rintro e w2 ⟨rfl, hb⟩
  have HB2 := Lib.hid hb
  clear hb
  go_wp2
  go_ret
  exact ⟨rfl, HB2.out⟩
theorem nil_rstamp (w : World) : Calls Try.prog 21 #[.pointer none] w fun e w' => e = .returned (.agg #[.int .u64 0, .int .u32 0]) ∧ Nob w w' := by
  go_enter Try.func21, Try.ntmps21
  go_wp2_with fail
  refine (nil_rnum _ _).mono ?_
  rintro e w1 ⟨rfl, hb⟩
  have HX1 := Lib.hid (show w1.heap[w.heap.size]? = some (.cells #[.int .u64 0, .int .u32 0] 43 (0, 0)) from (hb.block w.heap.size (by simp)).trans (heap_alloc_new w _))
  have HB1 := Lib.hid (nob_trans (below_alloc (Below.refl _ _) _) hb)
  clear hb
  go_wp2_with fail
  refine (nil_rnum _ _).mono ?_
  rintro e w2 ⟨rfl, hb⟩
  have HX2 := Lib.hid ((hb.block w.heap.size (Array.getElem?_eq_some_iff.1 HX1.out).1).trans HX1.out)
  have HB2 := Lib.hid (nob_trans HB1.out hb)
  clear hb
  go_wp2_with fail
  refine (nil_rerr _).mono ?_
  rintro e w3 ⟨rfl, hb⟩
  have hb2 := nob_trans (below_alloc (Below.refl w2.heap.size w2) _) hb
  have hX3 := (hb2.block w.heap.size (Array.getElem?_eq_some_iff.1 HX2.out).1).trans HX2.out
  have cx0 : w3.cell? ⟨w.heap.size, 0, none⟩ = some (.int .u64 0) := (blk_cell hX3 0).trans rfl
  have cx1 : w3.cell? ⟨w.heap.size, 1, none⟩ = some (.int .u32 0) := (blk_cell hX3 1).trans rfl
  have fx0 := blk_frozen hX3 0
  have fx1 := blk_frozen hX3 1
  have HB3 := Lib.hid (nob_trans (nob_trans HB2.out (below_alloc (Below.refl _ _) _)) hb)
  have HX3 := Lib.hid hX3
  clear hb hb2 hX3
  go_wp2
  refine bodyPost_ret (results_cell_row rfl _ _ w.heap.size 43 #[.int .u64 0, .int .u32 0] (0, 0) _ rfl (by (with_reducible repeat (first | refine blk_drewN ?_ _ | refine blk_drew ?_ | refine blk_alloc ?_ _)); refine blk_put (cs := #[.int .u64 0, .int .u32 0]) ?_ 1 _ rfl; (with_reducible repeat (first | refine blk_drewN ?_ _ | refine blk_drew ?_ | refine blk_alloc ?_ _)); refine blk_put (cs := #[.int .u64 0, .int .u32 0]) ?_ 0 _ rfl; (with_reducible repeat (first | refine blk_drewN ?_ _ | refine blk_drew ?_ | refine blk_alloc ?_ _)); exact HX3.out) Try.underlying43 rfl (by kernel_rfl)) rfl ?_
  refine ⟨rfl, ?_⟩
  have hb := HB3.out
  exact (hb.setCell (Nat.le_refl _) _).setCell (Nat.le_refl _) _
end Go.Proofs.Ytbmodiomoogffaa

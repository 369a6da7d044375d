/- EntryReads: bytes are read as the document says, and what is read is written as just these bytes. EntryWrites: which entry is right, and its bytes, are the document's; they are read as it, and are no more than a record may have. Conditions: those that each theorem names. -/
import Derived.Test.YtblabgdkbcphkaaEm
import Derived.Test.YtblabgdkbcphkaaEp
import Derived.Test.YtblabgdkbcphkaaEq
set_option linter.unusedVariables false
set_option linter.unusedSimpArgs false
set_option linter.constructorNameAsVariable false
namespace Go.Proofs.Ytblabgdkbcphkaa
open Go.RowKit Go.Deep Go.Proofs.YtblabgdkbcphkaaW.PrintWords Go.Proofs.Ytblabgdkbcphkaa.PEs Go.Proofs.Ytblabgdkbcphkaa.PRd
-- ZERO 0 .agg #[.int .i64 0, .int .u32 0, .int .u32 0, .int .u64 0, .int .u32 0, .int .u64 0, .int .u32 0, .int .u64 0, .int .u32 0, .string ⟨#[]⟩, .int .u8 0, .bool false, .slice none 0 0]
set_option maxRecDepth 100000 in
set_option maxHeartbeats 16000000 in
theorem ereads_bad (s : ByteArray) (hs : s.size ≤ 20000) (w : World) (hre : readE s = (zE, 2)) :
    Calls Try.prog 4 #[.string s] w fun e w' => e = .returned (.bool true) ∧ Below w.heap.size w w' := by
  have hz1 : decide ((20000 : Int) < (s.size : Int)) = false := decide_eq_false (by omega)
  have hz2 : decide (20000 < s.size) = false := decide_eq_false (by omega)
  have hrp : ∀ W, _ := fun W => read_calls s (by omega) W
  have hrd : ∀ W, _ := fun W => dread_calls s (by omega) W
  unfold ReadP EnV at hrp hrd
  rw [hre] at hrp hrd
  dsimp only at hrp hrd
  have HRP := Lib.hid hrp
  have HRD := Lib.hid hrd
  clear hrp hrd hre
  go_enter Try.func4, Try.ntmps4
  go_wp2_with fail
  refine (awake_calls _).mono ?_
  rintro e w1 ⟨rfl, hB⟩
  have HB1 := Lib.hid hB
  clear hB
  go_wp2_with fail
  refine (HRP.out _).mono ?_
  rintro e w2 ⟨A3, c3, rfl, hI, hz, hB⟩
  have HB2 := Lib.hid (bel_then HB1.out hB)
  have HI2 : Hid (EnIn w2 zE A3 c3) := Lib.hid ⟨hI, hz⟩
  have HX4 := Lib.hid (heap_alloc_new w2 (.cells #[.int .i64 0, .int .u32 0, .int .u32 0, .int .u64 0, .int .u32 0, .int .u64 0, .int .u32 0, .int .u64 0, .int .u32 0, .string ⟨#[]⟩, .int .u8 0, .bool false, .slice none 0 0] 30))
  have HB4 := Lib.hid (below_alloc' HB2.out (.cells #[.int .i64 0, .int .u32 0, .int .u32 0, .int .u64 0, .int .u32 0, .int .u64 0, .int .u32 0, .int .u64 0, .int .u32 0, .string ⟨#[]⟩, .int .u8 0, .bool false, .slice none 0 0] 30))
  have HC4 := Lib.hid (below_alloc' (Below.refl _ w2) (.cells #[.int .i64 0, .int .u32 0, .int .u32 0, .int .u64 0, .int .u32 0, .int .u64 0, .int .u32 0, .int .u64 0, .int .u32 0, .string ⟨#[]⟩, .int .u8 0, .bool false, .slice none 0 0] 30))
  have HGE := Lib.hid HB2.out.size
  clear hB hI hz HB1 HRP
  go_wp2_with ((with_reducible refine gate_store (t := 30) (p := 3) (v := .tmp 17) rfl ?_); refine store_ev2 (P := Try.prog) rfl 30 (.tmp 3) (.tmp 17) rfl rfl w2.heap.size 0 (.agg #[.int .i64 zE.k, .int .u32 zE.bc, .int .u32 zE.bn, .int .u64 zE.sp, .int .u32 zE.sl, .int .u64 zE.ap, .int .u32 zE.al, .int .u64 zE.mp, .int .u32 zE.ml, .string zE.pr, .int .u8 zE.parts, .bool zE.done, .slice A3 zE.ws.length c3]) #[.int .i64 zE.k, .int .u32 zE.bc, .int .u32 zE.bn, .int .u64 zE.sp, .int .u32 zE.sl, .int .u64 zE.ap, .int .u32 zE.al, .int .u64 zE.mp, .int .u32 zE.ml, .string zE.pr, .int .u8 zE.parts, .bool zE.done, .slice A3 zE.ws.length c3] rfl rfl rfl 30 _ #[.int .i64 zE.k, .int .u32 zE.bc, .int .u32 zE.bn, .int .u64 zE.sp, .int .u32 zE.sl, .int .u64 zE.ap, .int .u32 zE.al, .int .u64 zE.mp, .int .u32 zE.ml, .string zE.pr, .int .u8 zE.parts, .bool zE.done, .slice A3 zE.ws.length c3] HX4.out (by kernel_rfl) (by show 0 + 13 ≤ 13; decide) (by kernel_rfl) (by kernel_rfl) ?_; intro w3 hq hk hb; have HX3 := Lib.hid hq; have HB9 := Lib.hid (hb _ _ HGE.out HB4.out); have HB3 := Lib.hid (hb _ _ (Nat.le_refl _) HC4.out); clear hq hk hb)
  clear HX4 HB4 HC4 HGE
  have HI3 := Lib.hid (HI2.out.below HB3.out)
  clear HI2
  generalize w2.heap.size = b3 at *
  refine (HRD.out _).mono ?_
  rintro e w4 ⟨A5, c5, rfl, hI, hz, hB⟩
  have HX4 := Lib.hid ((hB.block _ (lt_at2 HX3.out)).trans HX3.out)
  have HI4 := Lib.hid (HI3.out.below hB)
  have HJ4 : Hid (EnIn w4 zE A5 c5) := Lib.hid ⟨hI, hz⟩
  have HB4 := Lib.hid (bel_then HB9.out hB)
  have HX5 := Lib.hid (heap_alloc_new w4 (.cells #[.int .i64 0, .int .u32 0, .int .u32 0, .int .u64 0, .int .u32 0, .int .u64 0, .int .u32 0, .int .u64 0, .int .u32 0, .string ⟨#[]⟩, .int .u8 0, .bool false, .slice none 0 0] 30))
  have HB5 := Lib.hid (below_alloc' HB4.out (.cells #[.int .i64 0, .int .u32 0, .int .u32 0, .int .u64 0, .int .u32 0, .int .u64 0, .int .u32 0, .int .u64 0, .int .u32 0, .string ⟨#[]⟩, .int .u8 0, .bool false, .slice none 0 0] 30))
  have HC5 := Lib.hid (below_alloc' (Below.refl _ w4) (.cells #[.int .i64 0, .int .u32 0, .int .u32 0, .int .u64 0, .int .u32 0, .int .u64 0, .int .u32 0, .int .u64 0, .int .u32 0, .string ⟨#[]⟩, .int .u8 0, .bool false, .slice none 0 0] 30))
  have HY4 := Lib.hid (blk_alloc HX4.out (.cells #[.int .i64 0, .int .u32 0, .int .u32 0, .int .u64 0, .int .u32 0, .int .u64 0, .int .u32 0, .int .u64 0, .int .u32 0, .string ⟨#[]⟩, .int .u8 0, .bool false, .slice none 0 0] 30))
  have HNE : Hid (b3 ≠ w4.heap.size) := Lib.hid (by have := lt_at2 HX4.out; omega)
  have HGE := Lib.hid HB4.out.size
  clear hB hI hz HB9 HX3 HI3 HRD HB3
  go_wp2_with (first | ((with_reducible refine gate_store (t := 30) (p := 5) (v := .tmp 22) rfl ?_); refine store_ev2 (P := Try.prog) rfl 30 (.tmp 5) (.tmp 22) rfl rfl w4.heap.size 0 (.agg #[.int .i64 zE.k, .int .u32 zE.bc, .int .u32 zE.bn, .int .u64 zE.sp, .int .u32 zE.sl, .int .u64 zE.ap, .int .u32 zE.al, .int .u64 zE.mp, .int .u32 zE.ml, .string zE.pr, .int .u8 zE.parts, .bool zE.done, .slice A5 zE.ws.length c5]) #[.int .i64 zE.k, .int .u32 zE.bc, .int .u32 zE.bn, .int .u64 zE.sp, .int .u32 zE.sl, .int .u64 zE.ap, .int .u32 zE.al, .int .u64 zE.mp, .int .u32 zE.ml, .string zE.pr, .int .u8 zE.parts, .bool zE.done, .slice A5 zE.ws.length c5] rfl rfl rfl 30 _ #[.int .i64 zE.k, .int .u32 zE.bc, .int .u32 zE.bn, .int .u64 zE.sp, .int .u32 zE.sl, .int .u64 zE.ap, .int .u32 zE.al, .int .u64 zE.mp, .int .u32 zE.ml, .string zE.pr, .int .u8 zE.parts, .bool zE.done, .slice A5 zE.ws.length c5] HX5.out (by kernel_rfl) (by show 0 + 13 ≤ 13; decide) (by kernel_rfl) (by kernel_rfl) ?_; intro w6 hq hk hb; have HX6 := Lib.hid (blk_keep2 HY4.out hk HNE.out); have HZ6 := Lib.hid hq; have HB6 := Lib.hid (hb _ _ HGE.out HB5.out); have HC6 := Lib.hid (hb _ _ (Nat.le_refl _) HC5.out); clear hq hk hb) | (first | ((with_reducible refine gate_dst (N := 28) rfl ?_); refine wpList_load_row rfl 30 (.tmp 3) rfl b3 rfl 30 _ (0, 0) _ HX6.out Try.underlying30 rfl (by kernel_rfl) ?_) | ((with_reducible refine gate_dst (N := 28) rfl ?_); refine gate_guard (by rfl) ?_; refine wpList_load_row rfl 30 (.tmp 3) rfl b3 rfl 30 _ (0, 0) _ HX6.out Try.underlying30 rfl (by kernel_rfl) ?_)) | (first | ((with_reducible refine gate_dst (N := 29) rfl ?_); refine wpList_load_row rfl 30 (.tmp 5) rfl w4.heap.size rfl 30 _ (0, 0) _ HZ6.out Try.underlying30 rfl (by kernel_rfl) ?_) | ((with_reducible refine gate_dst (N := 29) rfl ?_); refine gate_guard (by rfl) ?_; refine wpList_load_row rfl 30 (.tmp 5) rfl w4.heap.size rfl 30 _ (0, 0) _ HZ6.out Try.underlying30 rfl (by kernel_rfl) ?_)))
  have HI6 := Lib.hid (HI4.out.below HC6.out)
  have HJ6 := Lib.hid (HJ4.out.below HC6.out)
  refine (same_calls zE zE A3 A5 c3 c5 _ (by first | decide | exact HLL.out) HI6.out HJ6.out).mono ?_
  rintro e w7 ⟨rfl, hB⟩
  rw [eqD_self]
  have HX7 := Lib.hid ((hB.block _ (lt_at2 HX6.out)).trans HX6.out)
  have HI7 := Lib.hid (HI6.out.below hB)
  have HB7 := Lib.hid (bel_then HB6.out hB)
  clear hB
  have y0 : w7.cell? ⟨b3, 0, none⟩ = some (.int .i64 0) := (blk_cell HX7.out 0).trans rfl
  go_wp2_with fail
  go_ret
  exact ⟨rfl, HB7.out⟩
set_option maxRecDepth 100000 in
set_option maxHeartbeats 16000000 in
theorem ereads_ok (s : ByteArray) (hs : s.size ≤ 20000) (w : World) (x : En) (hre : readE s = (x, 0)) (hok : EOk x) (hr : rightE x = true) (hse : encE x = s) :
    Calls Try.prog 4 #[.string s] w fun e w' => e = .returned (.bool true) ∧ Below w.heap.size w w' := by
  have hz1 : decide ((20000 : Int) < (s.size : Int)) = false := decide_eq_false (by omega)
  have hz2 : decide (20000 < s.size) = false := decide_eq_false (by omega)
  have hrp : ∀ W, _ := fun W => read_calls s (by omega) W
  have hrd : ∀ W, _ := fun W => dread_calls s (by omega) W
  unfold ReadP EnV at hrp hrd
  rw [hre] at hrp hrd
  dsimp only at hrp hrd
  have HRP := Lib.hid hrp
  have HRD := Lib.hid hrd
  clear hrp hrd hre
  have HLL := Lib.hid hok.ws
  have hwr : writeE x = (s, 0) := by unfold writeE; rw [if_pos hr, hse]
  have hwa : ∀ W A c, EnIn W x A c → _ := fun W A c (h : EnIn W x A c) => write_calls x A c W hok h.h
  rw [hwr] at hwa
  dsimp only at hwa
  have HWA := Lib.hid hwa
  clear hwa hwr hok hr hse
  go_enter Try.func4, Try.ntmps4
  go_wp2_with fail
  refine (awake_calls _).mono ?_
  rintro e w1 ⟨rfl, hB⟩
  have HB1 := Lib.hid hB
  clear hB
  go_wp2_with fail
  refine (HRP.out _).mono ?_
  rintro e w2 ⟨A3, c3, rfl, hI, hz, hB⟩
  have HB2 := Lib.hid (bel_then HB1.out hB)
  have HI2 : Hid (EnIn w2 x A3 c3) := Lib.hid ⟨hI, hz⟩
  have HX4 := Lib.hid (heap_alloc_new w2 (.cells #[.int .i64 0, .int .u32 0, .int .u32 0, .int .u64 0, .int .u32 0, .int .u64 0, .int .u32 0, .int .u64 0, .int .u32 0, .string ⟨#[]⟩, .int .u8 0, .bool false, .slice none 0 0] 30))
  have HB4 := Lib.hid (below_alloc' HB2.out (.cells #[.int .i64 0, .int .u32 0, .int .u32 0, .int .u64 0, .int .u32 0, .int .u64 0, .int .u32 0, .int .u64 0, .int .u32 0, .string ⟨#[]⟩, .int .u8 0, .bool false, .slice none 0 0] 30))
  have HC4 := Lib.hid (below_alloc' (Below.refl _ w2) (.cells #[.int .i64 0, .int .u32 0, .int .u32 0, .int .u64 0, .int .u32 0, .int .u64 0, .int .u32 0, .int .u64 0, .int .u32 0, .string ⟨#[]⟩, .int .u8 0, .bool false, .slice none 0 0] 30))
  have HGE := Lib.hid HB2.out.size
  clear hB hI hz HB1 HRP
  go_wp2_with ((with_reducible refine gate_store (t := 30) (p := 3) (v := .tmp 17) rfl ?_); refine store_ev2 (P := Try.prog) rfl 30 (.tmp 3) (.tmp 17) rfl rfl w2.heap.size 0 (.agg #[.int .i64 x.k, .int .u32 x.bc, .int .u32 x.bn, .int .u64 x.sp, .int .u32 x.sl, .int .u64 x.ap, .int .u32 x.al, .int .u64 x.mp, .int .u32 x.ml, .string x.pr, .int .u8 x.parts, .bool x.done, .slice A3 x.ws.length c3]) #[.int .i64 x.k, .int .u32 x.bc, .int .u32 x.bn, .int .u64 x.sp, .int .u32 x.sl, .int .u64 x.ap, .int .u32 x.al, .int .u64 x.mp, .int .u32 x.ml, .string x.pr, .int .u8 x.parts, .bool x.done, .slice A3 x.ws.length c3] rfl rfl rfl 30 _ #[.int .i64 x.k, .int .u32 x.bc, .int .u32 x.bn, .int .u64 x.sp, .int .u32 x.sl, .int .u64 x.ap, .int .u32 x.al, .int .u64 x.mp, .int .u32 x.ml, .string x.pr, .int .u8 x.parts, .bool x.done, .slice A3 x.ws.length c3] HX4.out (by kernel_rfl) (by show 0 + 13 ≤ 13; decide) (by kernel_rfl) (by kernel_rfl) ?_; intro w3 hq hk hb; have HX3 := Lib.hid hq; have HB9 := Lib.hid (hb _ _ HGE.out HB4.out); have HB3 := Lib.hid (hb _ _ (Nat.le_refl _) HC4.out); clear hq hk hb)
  clear HX4 HB4 HC4 HGE
  have HI3 := Lib.hid (HI2.out.below HB3.out)
  clear HI2
  generalize w2.heap.size = b3 at *
  refine (HRD.out _).mono ?_
  rintro e w4 ⟨A5, c5, rfl, hI, hz, hB⟩
  have HX4 := Lib.hid ((hB.block _ (lt_at2 HX3.out)).trans HX3.out)
  have HI4 := Lib.hid (HI3.out.below hB)
  have HJ4 : Hid (EnIn w4 x A5 c5) := Lib.hid ⟨hI, hz⟩
  have HB4 := Lib.hid (bel_then HB9.out hB)
  have HX5 := Lib.hid (heap_alloc_new w4 (.cells #[.int .i64 0, .int .u32 0, .int .u32 0, .int .u64 0, .int .u32 0, .int .u64 0, .int .u32 0, .int .u64 0, .int .u32 0, .string ⟨#[]⟩, .int .u8 0, .bool false, .slice none 0 0] 30))
  have HB5 := Lib.hid (below_alloc' HB4.out (.cells #[.int .i64 0, .int .u32 0, .int .u32 0, .int .u64 0, .int .u32 0, .int .u64 0, .int .u32 0, .int .u64 0, .int .u32 0, .string ⟨#[]⟩, .int .u8 0, .bool false, .slice none 0 0] 30))
  have HC5 := Lib.hid (below_alloc' (Below.refl _ w4) (.cells #[.int .i64 0, .int .u32 0, .int .u32 0, .int .u64 0, .int .u32 0, .int .u64 0, .int .u32 0, .int .u64 0, .int .u32 0, .string ⟨#[]⟩, .int .u8 0, .bool false, .slice none 0 0] 30))
  have HY4 := Lib.hid (blk_alloc HX4.out (.cells #[.int .i64 0, .int .u32 0, .int .u32 0, .int .u64 0, .int .u32 0, .int .u64 0, .int .u32 0, .int .u64 0, .int .u32 0, .string ⟨#[]⟩, .int .u8 0, .bool false, .slice none 0 0] 30))
  have HNE : Hid (b3 ≠ w4.heap.size) := Lib.hid (by have := lt_at2 HX4.out; omega)
  have HGE := Lib.hid HB4.out.size
  clear hB hI hz HB9 HX3 HI3 HRD HB3
  go_wp2_with (first | ((with_reducible refine gate_store (t := 30) (p := 5) (v := .tmp 22) rfl ?_); refine store_ev2 (P := Try.prog) rfl 30 (.tmp 5) (.tmp 22) rfl rfl w4.heap.size 0 (.agg #[.int .i64 x.k, .int .u32 x.bc, .int .u32 x.bn, .int .u64 x.sp, .int .u32 x.sl, .int .u64 x.ap, .int .u32 x.al, .int .u64 x.mp, .int .u32 x.ml, .string x.pr, .int .u8 x.parts, .bool x.done, .slice A5 x.ws.length c5]) #[.int .i64 x.k, .int .u32 x.bc, .int .u32 x.bn, .int .u64 x.sp, .int .u32 x.sl, .int .u64 x.ap, .int .u32 x.al, .int .u64 x.mp, .int .u32 x.ml, .string x.pr, .int .u8 x.parts, .bool x.done, .slice A5 x.ws.length c5] rfl rfl rfl 30 _ #[.int .i64 x.k, .int .u32 x.bc, .int .u32 x.bn, .int .u64 x.sp, .int .u32 x.sl, .int .u64 x.ap, .int .u32 x.al, .int .u64 x.mp, .int .u32 x.ml, .string x.pr, .int .u8 x.parts, .bool x.done, .slice A5 x.ws.length c5] HX5.out (by kernel_rfl) (by show 0 + 13 ≤ 13; decide) (by kernel_rfl) (by kernel_rfl) ?_; intro w6 hq hk hb; have HX6 := Lib.hid (blk_keep2 HY4.out hk HNE.out); have HZ6 := Lib.hid hq; have HB6 := Lib.hid (hb _ _ HGE.out HB5.out); have HC6 := Lib.hid (hb _ _ (Nat.le_refl _) HC5.out); clear hq hk hb) | (first | ((with_reducible refine gate_dst (N := 28) rfl ?_); refine wpList_load_row rfl 30 (.tmp 3) rfl b3 rfl 30 _ (0, 0) _ HX6.out Try.underlying30 rfl (by kernel_rfl) ?_) | ((with_reducible refine gate_dst (N := 28) rfl ?_); refine gate_guard (by rfl) ?_; refine wpList_load_row rfl 30 (.tmp 3) rfl b3 rfl 30 _ (0, 0) _ HX6.out Try.underlying30 rfl (by kernel_rfl) ?_)) | (first | ((with_reducible refine gate_dst (N := 29) rfl ?_); refine wpList_load_row rfl 30 (.tmp 5) rfl w4.heap.size rfl 30 _ (0, 0) _ HZ6.out Try.underlying30 rfl (by kernel_rfl) ?_) | ((with_reducible refine gate_dst (N := 29) rfl ?_); refine gate_guard (by rfl) ?_; refine wpList_load_row rfl 30 (.tmp 5) rfl w4.heap.size rfl 30 _ (0, 0) _ HZ6.out Try.underlying30 rfl (by kernel_rfl) ?_)))
  have HI6 := Lib.hid (HI4.out.below HC6.out)
  have HJ6 := Lib.hid (HJ4.out.below HC6.out)
  refine (same_calls x x A3 A5 c3 c5 _ (by first | decide | exact HLL.out) HI6.out HJ6.out).mono ?_
  rintro e w7 ⟨rfl, hB⟩
  rw [eqD_self]
  have HX7 := Lib.hid ((hB.block _ (lt_at2 HX6.out)).trans HX6.out)
  have HI7 := Lib.hid (HI6.out.below hB)
  have HB7 := Lib.hid (bel_then HB6.out hB)
  clear hB
  go_wp2_with ((with_reducible refine gate_dst (N := 39) rfl ?_); refine wpList_load_row rfl 30 (.tmp 3) rfl b3 rfl 30 _ (0, 0) _ HX7.out Try.underlying30 rfl (by kernel_rfl) ?_)
  refine (HWA.out _ _ _ HI7.out).mono ?_
  rintro e w8 ⟨rfl, hB⟩
  have HB8 := Lib.hid (bel_then HB7.out hB)
  clear hB
  go_wp2_with fail
  go_ret
  exact ⟨rfl, HB8.out⟩
set_option maxRecDepth 100000 in
set_option maxHeartbeats 4000000 in
theorem ereads_big (s : ByteArray) (hs : 20000 < s.size) (w : World) :
    Calls Try.prog 4 #[.string s] w fun e w' => e = .returned (.bool true) ∧ Below w.heap.size w w' := by
  have hz1 : decide ((20000 : Int) < (s.size : Int)) = true := decide_eq_true (by omega)
  have hz2 : decide (20000 < s.size) = true := decide_eq_true hs
  go_enter Try.func4, Try.ntmps4
  go_wp2_with fail
  refine (awake_calls _).mono ?_
  rintro e w1 ⟨rfl, hB⟩
  have HB1 := Lib.hid hB
  clear hB
  go_wp2_with fail
  go_ret
  exact ⟨rfl, HB1.out⟩
theorem walk_EntryReads (s : ByteArray) (hw : s.size ≤ 140737488351232) (w : World) :
    Calls Try.prog 4 #[.string s] w fun e w' => e = .returned (.bool true) ∧ Below w.heap.size w w' := by
  by_cases hb : 20000 < s.size
  · exact ereads_big s hb w
  · rcases read_ways s with h | ⟨x, h1, h2, h3, h4⟩
    · exact ereads_bad s (by omega) w h
    · exact ereads_ok s (by omega) w x h1 h3 h2 h4
end Go.Proofs.Ytblabgdkbcphkaa

/- EntryApart: two right entries that have the same bytes are the same. EntryCuts: no beginning of an entry's bytes, and nothing that goes on behind them, is an entry. Conditions: those that each theorem names. -/
import Derived.Test.YtblabgdkbcphkaaEl
import Derived.WalkSpells
set_option linter.unusedVariables false
set_option linter.unusedSimpArgs false
set_option linter.constructorNameAsVariable false
namespace Go.Proofs.Ytblabgdkbcphkaa
open Go.RowKit Go.Deep Go.Proofs.YtblabgdkbcphkaaW.PrintWords Go.Proofs.Ytblabgdkbcphkaa.PEs Go.Proofs.Ytblabgdkbcphkaa.PRd
-- ZERO 0 .agg #[.int .i64 0, .int .u32 0, .int .u32 0, .int .u64 0, .int .u32 0, .int .u64 0, .int .u32 0, .int .u64 0, .int .u32 0, .string ⟨#[]⟩, .int .u8 0, .bool false, .slice none 0 0]
-- ZERO 1 .agg #[.int .i64 0, .int .u32 0, .int .u32 0, .int .u64 0, .int .u32 0, .int .u64 0, .int .u32 0, .int .u64 0, .int .u32 0, .string ⟨#[]⟩, .int .u8 0, .bool false, .slice none 0 0]
theorem cat3 {x m : Nat} (h : x ≤ m) : ((x ≤ m) = True) ∧ (decide (x ≤ m) = true) ∧ ((m < x) = False) := ⟨eq_true h, decide_eq_true h, eq_false (Nat.not_lt.2 h)⟩
theorem bel_then {w wr w1 : World} (h : Below w.heap.size w wr) (h1 : Below wr.heap.size wr w1) : Below w.heap.size w w1 := h.trans (h1.mono h.size)
def x0 : En := ⟨7, 1, 2, 0, 0, 0, 0, 0, 0, ⟨#[]⟩, 0, false, []⟩
theorem x0ok : EOk x0 := by constructor <;> first | exact ⟨by decide, by decide⟩ | decide
set_option maxRecDepth 100000 in
theorem write_x0 : writeE x0 = (⟨#[7, 1, 2]⟩, 0) := by kernel_rfl
set_option maxRecDepth 100000 in
theorem read_x0 : readE ⟨#[7, 1, 2]⟩ = (x0, 0) := by kernel_rfl
set_option maxRecDepth 100000 in
set_option maxHeartbeats 16000000 in
theorem awake_calls (w : World) : Calls Try.prog 7 #[] w fun e w' => e = .returned (.bool true) ∧ Below w.heap.size w w' := by
  go_enter Try.func7, Try.ntmps7
  go_wp2_with fail
  have hc := write_calls x0 none 0 w x0ok (Kd.C_nil _ _)
  rw [write_x0] at hc
  dsimp only at hc
  refine hc.mono ?_
  clear hc
  rintro e w2 ⟨rfl, hB⟩
  have HB2 := Lib.hid hB
  clear hB
  go_wp2_with fail
  have hc := read_calls ⟨#[7, 1, 2]⟩ (by decide) w2
  unfold ReadP EnV at hc
  rw [read_x0] at hc
  dsimp only at hc
  refine hc.mono ?_
  clear hc
  rintro e w3 ⟨A, c, rfl, hI, hz, hB⟩
  have HB3 := Lib.hid (bel_then HB2.out hB)
  have HX4 := Lib.hid (heap_alloc_new w3 (.cells #[.int .i64 0, .int .u32 0, .int .u32 0, .int .u64 0, .int .u32 0, .int .u64 0, .int .u32 0, .int .u64 0, .int .u32 0, .string ⟨#[]⟩, .int .u8 0, .bool false, .slice none 0 0] 30))
  have HB4 := Lib.hid (below_alloc' HB3.out (.cells #[.int .i64 0, .int .u32 0, .int .u32 0, .int .u64 0, .int .u32 0, .int .u64 0, .int .u32 0, .int .u64 0, .int .u32 0, .string ⟨#[]⟩, .int .u8 0, .bool false, .slice none 0 0] 30))
  have HGE := Lib.hid HB3.out.size
  clear hB hI hz HB2
  go_wp2_with ((with_reducible refine gate_store (t := 30) (p := 3) (v := .tmp 13) rfl ?_); refine store_ev2 (P := Try.prog) rfl 30 (.tmp 3) (.tmp 13) rfl rfl w3.heap.size 0 (.agg #[.int .i64 x0.k, .int .u32 x0.bc, .int .u32 x0.bn, .int .u64 x0.sp, .int .u32 x0.sl, .int .u64 x0.ap, .int .u32 x0.al, .int .u64 x0.mp, .int .u32 x0.ml, .string x0.pr, .int .u8 x0.parts, .bool x0.done, .slice A x0.ws.length c]) #[.int .i64 x0.k, .int .u32 x0.bc, .int .u32 x0.bn, .int .u64 x0.sp, .int .u32 x0.sl, .int .u64 x0.ap, .int .u32 x0.al, .int .u64 x0.mp, .int .u32 x0.ml, .string x0.pr, .int .u8 x0.parts, .bool x0.done, .slice A x0.ws.length c] rfl rfl rfl 30 _ #[.int .i64 x0.k, .int .u32 x0.bc, .int .u32 x0.bn, .int .u64 x0.sp, .int .u32 x0.sl, .int .u64 x0.ap, .int .u32 x0.al, .int .u64 x0.mp, .int .u32 x0.ml, .string x0.pr, .int .u8 x0.parts, .bool x0.done, .slice A x0.ws.length c] HX4.out (by kernel_rfl) (by show 0 + 13 ≤ 13; decide) (by kernel_rfl) (by kernel_rfl) ?_; intro w9 hq hk hb; have HX9 := Lib.hid hq; have HB9 := Lib.hid (hb _ _ HGE.out HB4.out); have y0 := (blk_cell HX9.out 0).trans (show _ = some (.int .i64 7) from rfl); have y2 := (blk_cell HX9.out 2).trans (show _ = some (.int .u32 2) from rfl); clear hq hk hb)
  go_ret
  exact ⟨rfl, HB9.out⟩
end Go.Proofs.Ytblabgdkbcphkaa

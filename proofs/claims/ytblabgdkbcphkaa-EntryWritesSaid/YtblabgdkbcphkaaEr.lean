/- EntryReads: bytes are read as the document says, and what is read is written as just these bytes. EntryWrites: which entry is right, and its bytes, are the document's; they are read as it, and are no more than a record may have. Conditions: those that each theorem names. -/
import Derived.Test.YtblabgdkbcphkaaEm
import Derived.Test.YtblabgdkbcphkaaEp
import Derived.Test.YtblabgdkbcphkaaEq
set_option linter.unusedVariables false
set_option linter.unusedSimpArgs false
set_option linter.constructorNameAsVariable false
namespace Go.Proofs.Ytblabgdkbcphkaa
open Go.RowKit Go.Deep Go.Proofs.YtblabgdkbcphkaaW.PrintWords Go.Proofs.Ytblabgdkbcphkaa.PEs Go.Proofs.Ytblabgdkbcphkaa.PRd
-- ZERO 0 .agg #[.int .i64 0, .int .u32 0, .int .u32 0, .int .u64 0, .int .u32 0, .int .u64 0, .int .u32 0, .int .u64 0, .int .u32 0, .string ⟨#[]⟩, .int .u8 0, .bool false, .slice none 0 0]
set_option maxRecDepth 100000 in
set_option maxHeartbeats 16000000 in
theorem ewrites_bn (e : En) (A : Option Addr) (c : Nat) (w : World) (hok : EOk e) (hin : EnIn w e A c) (hl : 100 < e.ws.length) (hr : rightE (⟨e.k, e.bc, e.bn, e.sp, e.sl, e.ap, e.al, e.mp, e.ml, e.pr, e.parts, e.done, e.ws.take 100⟩ : En) = false) :
    Calls Try.prog 3 #[.agg #[.int .i64 e.k, .int .u32 e.bc, .int .u32 e.bn, .int .u64 e.sp, .int .u32 e.sl, .int .u64 e.ap, .int .u32 e.al, .int .u64 e.mp, .int .u32 e.ml, .string e.pr, .int .u8 e.parts, .bool e.done, .slice A e.ws.length c]] w fun e w' => e = .returned (.bool true) ∧ Below w.heap.size w w' := by
  have hl1 : decide ((100 : Int) < (e.ws.length : Int)) = true := decide_eq_true (by omega)
  have hl3 : decide (100 < e.ws.length) = true := decide_eq_true hl
  have g1 : (e.ws.length : Int) ≤ 9223372036854775807 := by have := hok.ws; omega
  have g2 : (e.ws.length : Int) ≤ (c : Int) := by have := hin.z; omega
  have g3 : (100 : Int) ≤ (c : Int) := by have := hin.z; omega
  obtain ⟨e2, he2⟩ : ∃ x : En, x = (⟨e.k, e.bc, e.bn, e.sp, e.sl, e.ap, e.al, e.mp, e.ml, e.pr, e.parts, e.done, e.ws.take 100⟩ : En) := ⟨_, rfl⟩
  rw [← he2] at hr
  have hlen : e2.ws.length = 100 := by rw [he2]; show (e.ws.take 100).length = 100; rw [List.length_take]; omega
  have hok2 : EOk e2 := by rw [he2]; exact ⟨hok.k, hok.bc, hok.bn, hok.sp, hok.sl, hok.ap, hok.al, hok.mp, hok.ml, hok.parts, by show (e.ws.take 100).length ≤ _; rw [List.length_take]; omega⟩
  have hin2 : EnIn w e2 A c := by rw [he2]; exact ⟨Kd.C_take hin.h (by omega), by show (e.ws.take 100).length ≤ _; have := hin.z; rw [List.length_take]; omega⟩
  have hrow : ∀ d : Nat, (#[.int .i64 e2.k, .int .u32 e2.bc, .int .u32 e2.bn, .int .u64 e2.sp, .int .u32 e2.sl, .int .u64 e2.ap, .int .u32 e2.al, .int .u64 e2.mp, .int .u32 e2.ml, .string e2.pr, .int .u8 e2.parts, .bool e2.done, .slice A e2.ws.length c] : Array Value) = #[.int .i64 e.k, .int .u32 e.bc, .int .u32 e.bn, .int .u64 e.sp, .int .u32 e.sl, .int .u64 e.ap, .int .u32 e.al, .int .u64 e.mp, .int .u32 e.ml, .string e.pr, .int .u8 e.parts, .bool e.done, .slice A 100 c] := by
    intro d; rw [hlen, he2]
  obtain ⟨S, hS⟩ : ∃ S, S = (writeE e2).1 := ⟨_, rfl⟩
  have hF : (writeE e2).2 = 1 := by unfold writeE; rw [hr]; rfl
  have hwa : ∀ W, Below w.heap.size w W → _ := fun W (hB : Below w.heap.size w W) => write_calls e2 A c W hok2 (Kd.C_below hin2.h hB)
  have hwd : ∀ W, Below w.heap.size w W → _ := fun W (hB : Below w.heap.size w W) => rwrite_calls e2 A c W hok2 (hin2.below hB)
  have hri : ∀ W, Below w.heap.size w W → _ := fun W (hB : Below w.heap.size w W) => right_calls e2 A c W (Kd.C_below hin2.h hB) hok2.ws
  have hsm : ∀ W A3 c3, Below w.heap.size w W → EnIn W e2 A3 c3 → _ := fun W A3 c3 (hB : Below w.heap.size w W) (h3 : EnIn W e2 A3 c3) => same_calls e2 e2 A3 A c3 c W hok2.ws h3 (hin2.below hB)
  rw [hrow 0] at hwa hwd hri hsm
  rw [← hS, hF] at hwa hwd
  rw [hr] at hri
  rw [eqD_self] at hsm
  have HWA := Lib.hid hwa
  have HWD := Lib.hid hwd
  have HRI := Lib.hid hri
  have HSM := Lib.hid hsm
  have HCC := Lib.hid hin.h
  clear hwa hwd hri hsm hrow hS hF hok2 hin2 hlen he2 hr hok hin hl
  obtain ⟨e_k, e_bc, e_bn, e_sp, e_sl, e_ap, e_al, e_mp, e_ml, e_pr, e_parts, e_done, e_ws⟩ := e
  dsimp only at *
  go_enter Try.func3, Try.ntmps3
  go_upto_region 0 with (fail)
  go_step
  (with_reducible refine gate_dst (N := 1) rfl ?_)
  refine box_event ?hg (N := 1) ?hd (cs := #[.int .i64 e_k, .int .u32 e_bc, .int .u32 e_bn, .int .u64 e_sp, .int .u32 e_sl, .int .u64 e_ap, .int .u32 e_al, .int .u64 e_mp, .int .u32 e_ml, .string e_pr, .int .u8 e_parts, .bool e_done, .slice A e_ws.length c]) (t := 30) ?hr ?_
  case hd => rfl
  case hg => rfl
  case hr => kernel_rfl
  intro ge hgb w0 hbox hbb
  have HB0 := Lib.hid hbb
  have HX0 := Lib.hid hbox
  have HGW : Hid (w.heap.size ≤ ge) := Lib.hid (by omega)
  clear hgb hbox hbb
  go_wp2_with fail
  refine (awake_calls _).mono ?_
  rintro r w1 ⟨rfl, hB⟩
  have HX1 := Lib.hid ((hB.block _ (lt_at2 HX0.out)).trans HX0.out)
  have HB1 := Lib.hid (bel_then HB0.out hB)
  clear hB HX0 HB0
  have y12 : w1.cell? ⟨ge, 12, none⟩ = some (.slice A e_ws.length c) := (blk_cell HX1.out 12).trans rfl
  go_wp2_with (first | ((with_reducible refine gate_store (t := 28) (p := 18) (v := .tmp 17) rfl ?_); refine store_ev2 (P := Try.prog) rfl 28 (.tmp 18) (.tmp 17) rfl rfl ge 12 (.slice A 100 c) #[(.slice A 100 c)] rfl rfl rfl 30 _ #[.int .i64 e_k, .int .u32 e_bc, .int .u32 e_bn, .int .u64 e_sp, .int .u32 e_sl, .int .u64 e_ap, .int .u32 e_al, .int .u64 e_mp, .int .u32 e_ml, .string e_pr, .int .u8 e_parts, .bool e_done, .slice A 100 c] HX1.out (by kernel_rfl) (by show 12 + 1 ≤ 13; decide) (by kernel_rfl) (by kernel_rfl) ?_; intro w2 hq hk hb; have HX2 := Lib.hid hq; have HB2 := Lib.hid (hb _ _ HGW.out HB1.out); clear hq hk hb) | ((with_reducible refine gate_dst (N := 20) rfl ?_); refine wpList_load_row rfl 30 (.tmp 1) rfl ge rfl 30 _ (0, 0) _ HX2.out Try.underlying30 rfl (by kernel_rfl) ?_))
  clear HX1 HB1
  refine (HWA.out _ HB2.out).mono ?_
  rintro r w3 ⟨rfl, hB⟩
  have HX3 := Lib.hid ((hB.block _ (lt_at2 HX2.out)).trans HX2.out)
  have HB3 := Lib.hid (bel_then HB2.out hB)
  clear hB HX2 HB2 HWA y12
  go_wp2_with ((with_reducible refine gate_dst (N := 25) rfl ?_); refine wpList_load_row rfl 30 (.tmp 1) rfl ge rfl 30 _ (0, 0) _ HX3.out Try.underlying30 rfl (by kernel_rfl) ?_)
  refine (HWD.out _ HB3.out).mono ?_
  rintro r w4 ⟨rfl, hB⟩
  have HX4 := Lib.hid ((hB.block _ (lt_at2 HX3.out)).trans HX3.out)
  have HB4 := Lib.hid (bel_then HB3.out hB)
  clear hB HX3 HB3 HWD
  go_wp2_with (first | ((with_reducible refine gate_dst (N := 38) rfl ?_); refine wpList_load_row rfl 30 (.tmp 1) rfl ge rfl 30 _ (0, 0) _ HX4.out Try.underlying30 rfl (by kernel_rfl) ?_) | ((with_reducible refine gate_dst (N := 38) rfl ?_); refine gate_guard (by rfl) ?_; refine wpList_load_row rfl 30 (.tmp 1) rfl ge rfl 30 _ (0, 0) _ HX4.out Try.underlying30 rfl (by kernel_rfl) ?_))
  refine (HRI.out _ HB4.out).mono ?_
  rintro r w5 ⟨rfl, hB⟩
  have HX5 := Lib.hid ((hB.block _ (lt_at2 HX4.out)).trans HX4.out)
  have HB5 := Lib.hid (bel_then HB4.out hB)
  clear hB HX4 HB4 HRI
  go_wp2_with fail
  go_ret
  exact ⟨rfl, HB5.out⟩
set_option maxRecDepth 100000 in
set_option maxHeartbeats 16000000 in
theorem ewrites_by (e : En) (A : Option Addr) (c : Nat) (w : World) (hok : EOk e) (hin : EnIn w e A c) (hl : 100 < e.ws.length) (hr : rightE (⟨e.k, e.bc, e.bn, e.sp, e.sl, e.ap, e.al, e.mp, e.ml, e.pr, e.parts, e.done, e.ws.take 100⟩ : En) = true) :
    Calls Try.prog 3 #[.agg #[.int .i64 e.k, .int .u32 e.bc, .int .u32 e.bn, .int .u64 e.sp, .int .u32 e.sl, .int .u64 e.ap, .int .u32 e.al, .int .u64 e.mp, .int .u32 e.ml, .string e.pr, .int .u8 e.parts, .bool e.done, .slice A e.ws.length c]] w fun e w' => e = .returned (.bool true) ∧ Below w.heap.size w w' := by
  have hl1 : decide ((100 : Int) < (e.ws.length : Int)) = true := decide_eq_true (by omega)
  have hl3 : decide (100 < e.ws.length) = true := decide_eq_true hl
  have g1 : (e.ws.length : Int) ≤ 9223372036854775807 := by have := hok.ws; omega
  have g2 : (e.ws.length : Int) ≤ (c : Int) := by have := hin.z; omega
  have g3 : (100 : Int) ≤ (c : Int) := by have := hin.z; omega
  obtain ⟨e2, he2⟩ : ∃ x : En, x = (⟨e.k, e.bc, e.bn, e.sp, e.sl, e.ap, e.al, e.mp, e.ml, e.pr, e.parts, e.done, e.ws.take 100⟩ : En) := ⟨_, rfl⟩
  rw [← he2] at hr
  have hlen : e2.ws.length = 100 := by rw [he2]; show (e.ws.take 100).length = 100; rw [List.length_take]; omega
  have hok2 : EOk e2 := by rw [he2]; exact ⟨hok.k, hok.bc, hok.bn, hok.sp, hok.sl, hok.ap, hok.al, hok.mp, hok.ml, hok.parts, by show (e.ws.take 100).length ≤ _; rw [List.length_take]; omega⟩
  have hin2 : EnIn w e2 A c := by rw [he2]; exact ⟨Kd.C_take hin.h (by omega), by show (e.ws.take 100).length ≤ _; have := hin.z; rw [List.length_take]; omega⟩
  have hrow : ∀ d : Nat, (#[.int .i64 e2.k, .int .u32 e2.bc, .int .u32 e2.bn, .int .u64 e2.sp, .int .u32 e2.sl, .int .u64 e2.ap, .int .u32 e2.al, .int .u64 e2.mp, .int .u32 e2.ml, .string e2.pr, .int .u8 e2.parts, .bool e2.done, .slice A e2.ws.length c] : Array Value) = #[.int .i64 e.k, .int .u32 e.bc, .int .u32 e.bn, .int .u64 e.sp, .int .u32 e.sl, .int .u64 e.ap, .int .u32 e.al, .int .u64 e.mp, .int .u32 e.ml, .string e.pr, .int .u8 e.parts, .bool e.done, .slice A 100 c] := by
    intro d; rw [hlen, he2]
  obtain ⟨S, hS⟩ : ∃ S, S = (writeE e2).1 := ⟨_, rfl⟩
  have hF : (writeE e2).2 = 0 := by unfold writeE; rw [hr]; rfl
  have hwa : ∀ W, Below w.heap.size w W → _ := fun W (hB : Below w.heap.size w W) => write_calls e2 A c W hok2 (Kd.C_below hin2.h hB)
  have hwd : ∀ W, Below w.heap.size w W → _ := fun W (hB : Below w.heap.size w W) => rwrite_calls e2 A c W hok2 (hin2.below hB)
  have hri : ∀ W, Below w.heap.size w W → _ := fun W (hB : Below w.heap.size w W) => right_calls e2 A c W (Kd.C_below hin2.h hB) hok2.ws
  have hsm : ∀ W A3 c3, Below w.heap.size w W → EnIn W e2 A3 c3 → _ := fun W A3 c3 (hB : Below w.heap.size w W) (h3 : EnIn W e2 A3 c3) => same_calls e2 e2 A3 A c3 c W hok2.ws h3 (hin2.below hB)
  rw [hrow 0] at hwa hwd hri hsm
  rw [← hS, hF] at hwa hwd
  rw [hr] at hri
  rw [eqD_self] at hsm
  have HWA := Lib.hid hwa
  have HWD := Lib.hid hwd
  have HRI := Lib.hid hri
  have HSM := Lib.hid hsm
  have HRP : Hid (∀ W, Calls Try.prog 11 #[.string S] W fun r w' => ∃ A3 c3, r = .returned (.tuple #[.agg #[.int .i64 e2.k, .int .u32 e2.bc, .int .u32 e2.bn, .int .u64 e2.sp, .int .u32 e2.sl, .int .u64 e2.ap, .int .u32 e2.al, .int .u64 e2.mp, .int .u32 e2.ml, .string e2.pr, .int .u8 e2.parts, .bool e2.done, .slice A3 e2.ws.length c3], .int .i64 0]) ∧ Kd.C k54 w' A3 e2.ws.length e2.ws ∧ e2.ws.length ≤ c3 ∧ Below W.heap.size W w') := Lib.hid (by
    intro W
    have hSe : S = encE e2 := by rw [hS]; unfold writeE; rw [if_pos hr]
    have h := read_calls S (by rw [hSe]; have := enc_size e2 (fits_of e2 hok2 hr); omega) W
    unfold ReadP EnV at h
    rw [hSe, read_enc e2 hok2 hr] at h
    rw [hSe]
    exact h)
  have hz7 : S.size ≤ 7000 := by
    have hSe : S = encE e2 := by rw [hS]; unfold writeE; rw [if_pos hr]
    rw [hSe]
    exact enc_size e2 (fits_of e2 hok2 hr)
  have hz8 : decide ((S.size : Int) ≤ 16000) = true := decide_eq_true (by omega)
  have hz9 : decide (S.size ≤ 16000) = true := decide_eq_true (by omega)
  have HCC := Lib.hid hin.h
  clear hwa hwd hri hsm hrow hS hF hok2 hin2 hlen he2 hr hok hin hl
  obtain ⟨e_k, e_bc, e_bn, e_sp, e_sl, e_ap, e_al, e_mp, e_ml, e_pr, e_parts, e_done, e_ws⟩ := e
  dsimp only at *
  go_enter Try.func3, Try.ntmps3
  go_upto_region 0 with (fail)
  go_step
  (with_reducible refine gate_dst (N := 1) rfl ?_)
  refine box_event ?hg (N := 1) ?hd (cs := #[.int .i64 e_k, .int .u32 e_bc, .int .u32 e_bn, .int .u64 e_sp, .int .u32 e_sl, .int .u64 e_ap, .int .u32 e_al, .int .u64 e_mp, .int .u32 e_ml, .string e_pr, .int .u8 e_parts, .bool e_done, .slice A e_ws.length c]) (t := 30) ?hr ?_
  case hd => rfl
  case hg => rfl
  case hr => kernel_rfl
  intro ge hgb w0 hbox hbb
  have HB0 := Lib.hid hbb
  have HX0 := Lib.hid hbox
  have HGW : Hid (w.heap.size ≤ ge) := Lib.hid (by omega)
  clear hgb hbox hbb
  go_wp2_with fail
  refine (awake_calls _).mono ?_
  rintro r w1 ⟨rfl, hB⟩
  have HX1 := Lib.hid ((hB.block _ (lt_at2 HX0.out)).trans HX0.out)
  have HB1 := Lib.hid (bel_then HB0.out hB)
  clear hB HX0 HB0
  have y12 : w1.cell? ⟨ge, 12, none⟩ = some (.slice A e_ws.length c) := (blk_cell HX1.out 12).trans rfl
  go_wp2_with (first | ((with_reducible refine gate_store (t := 28) (p := 18) (v := .tmp 17) rfl ?_); refine store_ev2 (P := Try.prog) rfl 28 (.tmp 18) (.tmp 17) rfl rfl ge 12 (.slice A 100 c) #[(.slice A 100 c)] rfl rfl rfl 30 _ #[.int .i64 e_k, .int .u32 e_bc, .int .u32 e_bn, .int .u64 e_sp, .int .u32 e_sl, .int .u64 e_ap, .int .u32 e_al, .int .u64 e_mp, .int .u32 e_ml, .string e_pr, .int .u8 e_parts, .bool e_done, .slice A 100 c] HX1.out (by kernel_rfl) (by show 12 + 1 ≤ 13; decide) (by kernel_rfl) (by kernel_rfl) ?_; intro w2 hq hk hb; have HX2 := Lib.hid hq; have HB2 := Lib.hid (hb _ _ HGW.out HB1.out); clear hq hk hb) | ((with_reducible refine gate_dst (N := 20) rfl ?_); refine wpList_load_row rfl 30 (.tmp 1) rfl ge rfl 30 _ (0, 0) _ HX2.out Try.underlying30 rfl (by kernel_rfl) ?_))
  clear HX1 HB1
  refine (HWA.out _ HB2.out).mono ?_
  rintro r w3 ⟨rfl, hB⟩
  have HX3 := Lib.hid ((hB.block _ (lt_at2 HX2.out)).trans HX2.out)
  have HB3 := Lib.hid (bel_then HB2.out hB)
  clear hB HX2 HB2 HWA y12
  go_wp2_with ((with_reducible refine gate_dst (N := 25) rfl ?_); refine wpList_load_row rfl 30 (.tmp 1) rfl ge rfl 30 _ (0, 0) _ HX3.out Try.underlying30 rfl (by kernel_rfl) ?_)
  refine (HWD.out _ HB3.out).mono ?_
  rintro r w4 ⟨rfl, hB⟩
  have HX4 := Lib.hid ((hB.block _ (lt_at2 HX3.out)).trans HX3.out)
  have HB4 := Lib.hid (bel_then HB3.out hB)
  clear hB HX3 HB3 HWD
  go_wp2_with (first | ((with_reducible refine gate_dst (N := 38) rfl ?_); refine wpList_load_row rfl 30 (.tmp 1) rfl ge rfl 30 _ (0, 0) _ HX4.out Try.underlying30 rfl (by kernel_rfl) ?_) | ((with_reducible refine gate_dst (N := 38) rfl ?_); refine gate_guard (by rfl) ?_; refine wpList_load_row rfl 30 (.tmp 1) rfl ge rfl 30 _ (0, 0) _ HX4.out Try.underlying30 rfl (by kernel_rfl) ?_))
  refine (HRI.out _ HB4.out).mono ?_
  rintro r w5 ⟨rfl, hB⟩
  have HX5 := Lib.hid ((hB.block _ (lt_at2 HX4.out)).trans HX4.out)
  have HB5 := Lib.hid (bel_then HB4.out hB)
  clear hB HX4 HB4 HRI
  go_wp2_with fail
  refine (HRP.out _).mono ?_
  rintro r w6 ⟨A3, c3, rfl, hI, hz, hB⟩
  have HX6 := Lib.hid ((hB.block _ (lt_at2 HX5.out)).trans HX5.out)
  have HB6 := Lib.hid (bel_then HB5.out hB)
  have HI6 : Hid (EnIn w6 e2 A3 c3) := Lib.hid ⟨hI, hz⟩
  have HZ6 := Lib.hid (heap_alloc_new w6 (.cells #[.int .i64 0, .int .u32 0, .int .u32 0, .int .u64 0, .int .u32 0, .int .u64 0, .int .u32 0, .int .u64 0, .int .u32 0, .string ⟨#[]⟩, .int .u8 0, .bool false, .slice none 0 0] 30))
  have HB7 := Lib.hid (below_alloc' HB6.out (.cells #[.int .i64 0, .int .u32 0, .int .u32 0, .int .u64 0, .int .u32 0, .int .u64 0, .int .u32 0, .int .u64 0, .int .u32 0, .string ⟨#[]⟩, .int .u8 0, .bool false, .slice none 0 0] 30))
  have HC7 := Lib.hid (below_alloc' (Below.refl _ w6) (.cells #[.int .i64 0, .int .u32 0, .int .u32 0, .int .u64 0, .int .u32 0, .int .u64 0, .int .u32 0, .int .u64 0, .int .u32 0, .string ⟨#[]⟩, .int .u8 0, .bool false, .slice none 0 0] 30))
  have HY6 := Lib.hid (blk_alloc HX6.out (.cells #[.int .i64 0, .int .u32 0, .int .u32 0, .int .u64 0, .int .u32 0, .int .u64 0, .int .u32 0, .int .u64 0, .int .u32 0, .string ⟨#[]⟩, .int .u8 0, .bool false, .slice none 0 0] 30))
  have HNE : Hid (ge ≠ w6.heap.size) := Lib.hid (by have := lt_at2 HX6.out; omega)
  have HGE := Lib.hid HB6.out.size
  clear hB hI hz HX5 HB5 HRP
  go_wp2_with (first | ((with_reducible refine gate_store (t := 30) (p := 7) (v := .tmp 51) rfl ?_); refine store_ev2 (P := Try.prog) rfl 30 (.tmp 7) (.tmp 51) rfl rfl w6.heap.size 0 (.agg #[.int .i64 e2.k, .int .u32 e2.bc, .int .u32 e2.bn, .int .u64 e2.sp, .int .u32 e2.sl, .int .u64 e2.ap, .int .u32 e2.al, .int .u64 e2.mp, .int .u32 e2.ml, .string e2.pr, .int .u8 e2.parts, .bool e2.done, .slice A3 e2.ws.length c3]) #[.int .i64 e2.k, .int .u32 e2.bc, .int .u32 e2.bn, .int .u64 e2.sp, .int .u32 e2.sl, .int .u64 e2.ap, .int .u32 e2.al, .int .u64 e2.mp, .int .u32 e2.ml, .string e2.pr, .int .u8 e2.parts, .bool e2.done, .slice A3 e2.ws.length c3] rfl rfl rfl 30 _ #[.int .i64 e2.k, .int .u32 e2.bc, .int .u32 e2.bn, .int .u64 e2.sp, .int .u32 e2.sl, .int .u64 e2.ap, .int .u32 e2.al, .int .u64 e2.mp, .int .u32 e2.ml, .string e2.pr, .int .u8 e2.parts, .bool e2.done, .slice A3 e2.ws.length c3] HZ6.out (by kernel_rfl) (by show 0 + 13 ≤ 13; decide) (by kernel_rfl) (by kernel_rfl) ?_; intro w8 hq hk hb; have HX8 := Lib.hid (blk_keep2 HY6.out hk HNE.out); have HZ8 := Lib.hid hq; have HB8 := Lib.hid (hb _ _ HGE.out HB7.out); have HC8 := Lib.hid (hb _ _ (Nat.le_refl _) HC7.out); clear hq hk hb) | (first | ((with_reducible refine gate_dst (N := 56) rfl ?_); refine wpList_load_row rfl 30 (.tmp 7) rfl w6.heap.size rfl 30 _ (0, 0) _ HZ8.out Try.underlying30 rfl (by kernel_rfl) ?_) | ((with_reducible refine gate_dst (N := 56) rfl ?_); refine gate_guard (by rfl) ?_; refine wpList_load_row rfl 30 (.tmp 7) rfl w6.heap.size rfl 30 _ (0, 0) _ HZ8.out Try.underlying30 rfl (by kernel_rfl) ?_)) | (first | ((with_reducible refine gate_dst (N := 57) rfl ?_); refine wpList_load_row rfl 30 (.tmp 1) rfl ge rfl 30 _ (0, 0) _ HX8.out Try.underlying30 rfl (by kernel_rfl) ?_) | ((with_reducible refine gate_dst (N := 57) rfl ?_); refine gate_guard (by rfl) ?_; refine wpList_load_row rfl 30 (.tmp 1) rfl ge rfl 30 _ (0, 0) _ HX8.out Try.underlying30 rfl (by kernel_rfl) ?_)))
  have HI8 := Lib.hid (HI6.out.below HC8.out)
  refine (HSM.out _ _ _ HB8.out HI8.out).mono ?_
  rintro r w9 ⟨rfl, hB⟩
  have HB9 := Lib.hid (bel_then HB8.out hB)
  clear hB
  go_wp2_with fail
  go_ret
  exact ⟨rfl, HB9.out⟩
set_option maxRecDepth 100000 in
set_option maxHeartbeats 16000000 in
theorem ewrites_sn (e : En) (A : Option Addr) (c : Nat) (w : World) (hok : EOk e) (hin : EnIn w e A c) (hl : ¬ 100 < e.ws.length) (hr : rightE e = false) :
    Calls Try.prog 3 #[.agg #[.int .i64 e.k, .int .u32 e.bc, .int .u32 e.bn, .int .u64 e.sp, .int .u32 e.sl, .int .u64 e.ap, .int .u32 e.al, .int .u64 e.mp, .int .u32 e.ml, .string e.pr, .int .u8 e.parts, .bool e.done, .slice A e.ws.length c]] w fun e w' => e = .returned (.bool true) ∧ Below w.heap.size w w' := by
  have hl1 : decide ((100 : Int) < (e.ws.length : Int)) = false := decide_eq_false (by omega)
  have hl3 : decide (100 < e.ws.length) = false := decide_eq_false hl
  have g1 : (e.ws.length : Int) ≤ 9223372036854775807 := by have := hok.ws; omega
  have g2 : (e.ws.length : Int) ≤ (c : Int) := by have := hin.z; omega
  obtain ⟨e2, he2⟩ : ∃ x : En, x = e := ⟨_, rfl⟩
  rw [← he2] at hr
  have hlen : e2.ws.length = e.ws.length := by rw [he2]
  have hok2 : EOk e2 := by rw [he2]; exact hok
  have hin2 : EnIn w e2 A c := by rw [he2]; exact hin
  have hrow : ∀ d : Nat, (#[.int .i64 e2.k, .int .u32 e2.bc, .int .u32 e2.bn, .int .u64 e2.sp, .int .u32 e2.sl, .int .u64 e2.ap, .int .u32 e2.al, .int .u64 e2.mp, .int .u32 e2.ml, .string e2.pr, .int .u8 e2.parts, .bool e2.done, .slice A e2.ws.length c] : Array Value) = #[.int .i64 e.k, .int .u32 e.bc, .int .u32 e.bn, .int .u64 e.sp, .int .u32 e.sl, .int .u64 e.ap, .int .u32 e.al, .int .u64 e.mp, .int .u32 e.ml, .string e.pr, .int .u8 e.parts, .bool e.done, .slice A e.ws.length c] := by
    intro d; rw [hlen, he2]
  obtain ⟨S, hS⟩ : ∃ S, S = (writeE e2).1 := ⟨_, rfl⟩
  have hF : (writeE e2).2 = 1 := by unfold writeE; rw [hr]; rfl
  have hwa : ∀ W, Below w.heap.size w W → _ := fun W (hB : Below w.heap.size w W) => write_calls e2 A c W hok2 (Kd.C_below hin2.h hB)
  have hwd : ∀ W, Below w.heap.size w W → _ := fun W (hB : Below w.heap.size w W) => rwrite_calls e2 A c W hok2 (hin2.below hB)
  have hri : ∀ W, Below w.heap.size w W → _ := fun W (hB : Below w.heap.size w W) => right_calls e2 A c W (Kd.C_below hin2.h hB) hok2.ws
  have hsm : ∀ W A3 c3, Below w.heap.size w W → EnIn W e2 A3 c3 → _ := fun W A3 c3 (hB : Below w.heap.size w W) (h3 : EnIn W e2 A3 c3) => same_calls e2 e2 A3 A c3 c W hok2.ws h3 (hin2.below hB)
  rw [hrow 0] at hwa hwd hri hsm
  rw [← hS, hF] at hwa hwd
  rw [hr] at hri
  rw [eqD_self] at hsm
  have HWA := Lib.hid hwa
  have HWD := Lib.hid hwd
  have HRI := Lib.hid hri
  have HSM := Lib.hid hsm
  have HCC := Lib.hid hin.h
  clear hwa hwd hri hsm hrow hS hF hok2 hin2 hlen he2 hr hok hin hl
  obtain ⟨e_k, e_bc, e_bn, e_sp, e_sl, e_ap, e_al, e_mp, e_ml, e_pr, e_parts, e_done, e_ws⟩ := e
  dsimp only at *
  go_enter Try.func3, Try.ntmps3
  go_upto_region 0 with (fail)
  go_step
  (with_reducible refine gate_dst (N := 1) rfl ?_)
  refine box_event ?hg (N := 1) ?hd (cs := #[.int .i64 e_k, .int .u32 e_bc, .int .u32 e_bn, .int .u64 e_sp, .int .u32 e_sl, .int .u64 e_ap, .int .u32 e_al, .int .u64 e_mp, .int .u32 e_ml, .string e_pr, .int .u8 e_parts, .bool e_done, .slice A e_ws.length c]) (t := 30) ?hr ?_
  case hd => rfl
  case hg => rfl
  case hr => kernel_rfl
  intro ge hgb w0 hbox hbb
  have HB0 := Lib.hid hbb
  have HX0 := Lib.hid hbox
  have HGW : Hid (w.heap.size ≤ ge) := Lib.hid (by omega)
  clear hgb hbox hbb
  go_wp2_with fail
  refine (awake_calls _).mono ?_
  rintro r w1 ⟨rfl, hB⟩
  have HX1 := Lib.hid ((hB.block _ (lt_at2 HX0.out)).trans HX0.out)
  have HB1 := Lib.hid (bel_then HB0.out hB)
  clear hB HX0 HB0
  have y12 : w1.cell? ⟨ge, 12, none⟩ = some (.slice A e_ws.length c) := (blk_cell HX1.out 12).trans rfl
  go_wp2_with ((with_reducible refine gate_dst (N := 20) rfl ?_); refine wpList_load_row rfl 30 (.tmp 1) rfl ge rfl 30 _ (0, 0) _ HX1.out Try.underlying30 rfl (by kernel_rfl) ?_)
  refine (HWA.out _ HB1.out).mono ?_
  rintro r w3 ⟨rfl, hB⟩
  have HX3 := Lib.hid ((hB.block _ (lt_at2 HX1.out)).trans HX1.out)
  have HB3 := Lib.hid (bel_then HB1.out hB)
  clear hB HX1 HB1 HWA y12
  go_wp2_with ((with_reducible refine gate_dst (N := 25) rfl ?_); refine wpList_load_row rfl 30 (.tmp 1) rfl ge rfl 30 _ (0, 0) _ HX3.out Try.underlying30 rfl (by kernel_rfl) ?_)
  refine (HWD.out _ HB3.out).mono ?_
  rintro r w4 ⟨rfl, hB⟩
  have HX4 := Lib.hid ((hB.block _ (lt_at2 HX3.out)).trans HX3.out)
  have HB4 := Lib.hid (bel_then HB3.out hB)
  clear hB HX3 HB3 HWD
  go_wp2_with (first | ((with_reducible refine gate_dst (N := 38) rfl ?_); refine wpList_load_row rfl 30 (.tmp 1) rfl ge rfl 30 _ (0, 0) _ HX4.out Try.underlying30 rfl (by kernel_rfl) ?_) | ((with_reducible refine gate_dst (N := 38) rfl ?_); refine gate_guard (by rfl) ?_; refine wpList_load_row rfl 30 (.tmp 1) rfl ge rfl 30 _ (0, 0) _ HX4.out Try.underlying30 rfl (by kernel_rfl) ?_))
  refine (HRI.out _ HB4.out).mono ?_
  rintro r w5 ⟨rfl, hB⟩
  have HX5 := Lib.hid ((hB.block _ (lt_at2 HX4.out)).trans HX4.out)
  have HB5 := Lib.hid (bel_then HB4.out hB)
  clear hB HX4 HB4 HRI
  go_wp2_with fail
  go_ret
  exact ⟨rfl, HB5.out⟩
set_option maxRecDepth 100000 in
set_option maxHeartbeats 16000000 in
theorem ewrites_sy (e : En) (A : Option Addr) (c : Nat) (w : World) (hok : EOk e) (hin : EnIn w e A c) (hl : ¬ 100 < e.ws.length) (hr : rightE e = true) :
    Calls Try.prog 3 #[.agg #[.int .i64 e.k, .int .u32 e.bc, .int .u32 e.bn, .int .u64 e.sp, .int .u32 e.sl, .int .u64 e.ap, .int .u32 e.al, .int .u64 e.mp, .int .u32 e.ml, .string e.pr, .int .u8 e.parts, .bool e.done, .slice A e.ws.length c]] w fun e w' => e = .returned (.bool true) ∧ Below w.heap.size w w' := by
  have hl1 : decide ((100 : Int) < (e.ws.length : Int)) = false := decide_eq_false (by omega)
  have hl3 : decide (100 < e.ws.length) = false := decide_eq_false hl
  have g1 : (e.ws.length : Int) ≤ 9223372036854775807 := by have := hok.ws; omega
  have g2 : (e.ws.length : Int) ≤ (c : Int) := by have := hin.z; omega
  obtain ⟨e2, he2⟩ : ∃ x : En, x = e := ⟨_, rfl⟩
  rw [← he2] at hr
  have hlen : e2.ws.length = e.ws.length := by rw [he2]
  have hok2 : EOk e2 := by rw [he2]; exact hok
  have hin2 : EnIn w e2 A c := by rw [he2]; exact hin
  have hrow : ∀ d : Nat, (#[.int .i64 e2.k, .int .u32 e2.bc, .int .u32 e2.bn, .int .u64 e2.sp, .int .u32 e2.sl, .int .u64 e2.ap, .int .u32 e2.al, .int .u64 e2.mp, .int .u32 e2.ml, .string e2.pr, .int .u8 e2.parts, .bool e2.done, .slice A e2.ws.length c] : Array Value) = #[.int .i64 e.k, .int .u32 e.bc, .int .u32 e.bn, .int .u64 e.sp, .int .u32 e.sl, .int .u64 e.ap, .int .u32 e.al, .int .u64 e.mp, .int .u32 e.ml, .string e.pr, .int .u8 e.parts, .bool e.done, .slice A e.ws.length c] := by
    intro d; rw [hlen, he2]
  obtain ⟨S, hS⟩ : ∃ S, S = (writeE e2).1 := ⟨_, rfl⟩
  have hF : (writeE e2).2 = 0 := by unfold writeE; rw [hr]; rfl
  have hwa : ∀ W, Below w.heap.size w W → _ := fun W (hB : Below w.heap.size w W) => write_calls e2 A c W hok2 (Kd.C_below hin2.h hB)
  have hwd : ∀ W, Below w.heap.size w W → _ := fun W (hB : Below w.heap.size w W) => rwrite_calls e2 A c W hok2 (hin2.below hB)
  have hri : ∀ W, Below w.heap.size w W → _ := fun W (hB : Below w.heap.size w W) => right_calls e2 A c W (Kd.C_below hin2.h hB) hok2.ws
  have hsm : ∀ W A3 c3, Below w.heap.size w W → EnIn W e2 A3 c3 → _ := fun W A3 c3 (hB : Below w.heap.size w W) (h3 : EnIn W e2 A3 c3) => same_calls e2 e2 A3 A c3 c W hok2.ws h3 (hin2.below hB)
  rw [hrow 0] at hwa hwd hri hsm
  rw [← hS, hF] at hwa hwd
  rw [hr] at hri
  rw [eqD_self] at hsm
  have HWA := Lib.hid hwa
  have HWD := Lib.hid hwd
  have HRI := Lib.hid hri
  have HSM := Lib.hid hsm
  have HRP : Hid (∀ W, Calls Try.prog 11 #[.string S] W fun r w' => ∃ A3 c3, r = .returned (.tuple #[.agg #[.int .i64 e2.k, .int .u32 e2.bc, .int .u32 e2.bn, .int .u64 e2.sp, .int .u32 e2.sl, .int .u64 e2.ap, .int .u32 e2.al, .int .u64 e2.mp, .int .u32 e2.ml, .string e2.pr, .int .u8 e2.parts, .bool e2.done, .slice A3 e2.ws.length c3], .int .i64 0]) ∧ Kd.C k54 w' A3 e2.ws.length e2.ws ∧ e2.ws.length ≤ c3 ∧ Below W.heap.size W w') := Lib.hid (by
    intro W
    have hSe : S = encE e2 := by rw [hS]; unfold writeE; rw [if_pos hr]
    have h := read_calls S (by rw [hSe]; have := enc_size e2 (fits_of e2 hok2 hr); omega) W
    unfold ReadP EnV at h
    rw [hSe, read_enc e2 hok2 hr] at h
    rw [hSe]
    exact h)
  have hz7 : S.size ≤ 7000 := by
    have hSe : S = encE e2 := by rw [hS]; unfold writeE; rw [if_pos hr]
    rw [hSe]
    exact enc_size e2 (fits_of e2 hok2 hr)
  have hz8 : decide ((S.size : Int) ≤ 16000) = true := decide_eq_true (by omega)
  have hz9 : decide (S.size ≤ 16000) = true := decide_eq_true (by omega)
  have HCC := Lib.hid hin.h
  clear hwa hwd hri hsm hrow hS hF hok2 hin2 hlen he2 hr hok hin hl
  obtain ⟨e_k, e_bc, e_bn, e_sp, e_sl, e_ap, e_al, e_mp, e_ml, e_pr, e_parts, e_done, e_ws⟩ := e
  dsimp only at *
  go_enter Try.func3, Try.ntmps3
  go_upto_region 0 with (fail)
  go_step
  (with_reducible refine gate_dst (N := 1) rfl ?_)
  refine box_event ?hg (N := 1) ?hd (cs := #[.int .i64 e_k, .int .u32 e_bc, .int .u32 e_bn, .int .u64 e_sp, .int .u32 e_sl, .int .u64 e_ap, .int .u32 e_al, .int .u64 e_mp, .int .u32 e_ml, .string e_pr, .int .u8 e_parts, .bool e_done, .slice A e_ws.length c]) (t := 30) ?hr ?_
  case hd => rfl
  case hg => rfl
  case hr => kernel_rfl
  intro ge hgb w0 hbox hbb
  have HB0 := Lib.hid hbb
  have HX0 := Lib.hid hbox
  have HGW : Hid (w.heap.size ≤ ge) := Lib.hid (by omega)
  clear hgb hbox hbb
  go_wp2_with fail
  refine (awake_calls _).mono ?_
  rintro r w1 ⟨rfl, hB⟩
  have HX1 := Lib.hid ((hB.block _ (lt_at2 HX0.out)).trans HX0.out)
  have HB1 := Lib.hid (bel_then HB0.out hB)
  clear hB HX0 HB0
  have y12 : w1.cell? ⟨ge, 12, none⟩ = some (.slice A e_ws.length c) := (blk_cell HX1.out 12).trans rfl
  go_wp2_with ((with_reducible refine gate_dst (N := 20) rfl ?_); refine wpList_load_row rfl 30 (.tmp 1) rfl ge rfl 30 _ (0, 0) _ HX1.out Try.underlying30 rfl (by kernel_rfl) ?_)
  refine (HWA.out _ HB1.out).mono ?_
  rintro r w3 ⟨rfl, hB⟩
  have HX3 := Lib.hid ((hB.block _ (lt_at2 HX1.out)).trans HX1.out)
  have HB3 := Lib.hid (bel_then HB1.out hB)
  clear hB HX1 HB1 HWA y12
  go_wp2_with ((with_reducible refine gate_dst (N := 25) rfl ?_); refine wpList_load_row rfl 30 (.tmp 1) rfl ge rfl 30 _ (0, 0) _ HX3.out Try.underlying30 rfl (by kernel_rfl) ?_)
  refine (HWD.out _ HB3.out).mono ?_
  rintro r w4 ⟨rfl, hB⟩
  have HX4 := Lib.hid ((hB.block _ (lt_at2 HX3.out)).trans HX3.out)
  have HB4 := Lib.hid (bel_then HB3.out hB)
  clear hB HX3 HB3 HWD
  go_wp2_with (first | ((with_reducible refine gate_dst (N := 38) rfl ?_); refine wpList_load_row rfl 30 (.tmp 1) rfl ge rfl 30 _ (0, 0) _ HX4.out Try.underlying30 rfl (by kernel_rfl) ?_) | ((with_reducible refine gate_dst (N := 38) rfl ?_); refine gate_guard (by rfl) ?_; refine wpList_load_row rfl 30 (.tmp 1) rfl ge rfl 30 _ (0, 0) _ HX4.out Try.underlying30 rfl (by kernel_rfl) ?_))
  refine (HRI.out _ HB4.out).mono ?_
  rintro r w5 ⟨rfl, hB⟩
  have HX5 := Lib.hid ((hB.block _ (lt_at2 HX4.out)).trans HX4.out)
  have HB5 := Lib.hid (bel_then HB4.out hB)
  clear hB HX4 HB4 HRI
  go_wp2_with fail
  refine (HRP.out _).mono ?_
  rintro r w6 ⟨A3, c3, rfl, hI, hz, hB⟩
  have HX6 := Lib.hid ((hB.block _ (lt_at2 HX5.out)).trans HX5.out)
  have HB6 := Lib.hid (bel_then HB5.out hB)
  have HI6 : Hid (EnIn w6 e2 A3 c3) := Lib.hid ⟨hI, hz⟩
  have HZ6 := Lib.hid (heap_alloc_new w6 (.cells #[.int .i64 0, .int .u32 0, .int .u32 0, .int .u64 0, .int .u32 0, .int .u64 0, .int .u32 0, .int .u64 0, .int .u32 0, .string ⟨#[]⟩, .int .u8 0, .bool false, .slice none 0 0] 30))
  have HB7 := Lib.hid (below_alloc' HB6.out (.cells #[.int .i64 0, .int .u32 0, .int .u32 0, .int .u64 0, .int .u32 0, .int .u64 0, .int .u32 0, .int .u64 0, .int .u32 0, .string ⟨#[]⟩, .int .u8 0, .bool false, .slice none 0 0] 30))
  have HC7 := Lib.hid (below_alloc' (Below.refl _ w6) (.cells #[.int .i64 0, .int .u32 0, .int .u32 0, .int .u64 0, .int .u32 0, .int .u64 0, .int .u32 0, .int .u64 0, .int .u32 0, .string ⟨#[]⟩, .int .u8 0, .bool false, .slice none 0 0] 30))
  have HY6 := Lib.hid (blk_alloc HX6.out (.cells #[.int .i64 0, .int .u32 0, .int .u32 0, .int .u64 0, .int .u32 0, .int .u64 0, .int .u32 0, .int .u64 0, .int .u32 0, .string ⟨#[]⟩, .int .u8 0, .bool false, .slice none 0 0] 30))
  have HNE : Hid (ge ≠ w6.heap.size) := Lib.hid (by have := lt_at2 HX6.out; omega)
  have HGE := Lib.hid HB6.out.size
  clear hB hI hz HX5 HB5 HRP
  go_wp2_with (first | ((with_reducible refine gate_store (t := 30) (p := 7) (v := .tmp 51) rfl ?_); refine store_ev2 (P := Try.prog) rfl 30 (.tmp 7) (.tmp 51) rfl rfl w6.heap.size 0 (.agg #[.int .i64 e2.k, .int .u32 e2.bc, .int .u32 e2.bn, .int .u64 e2.sp, .int .u32 e2.sl, .int .u64 e2.ap, .int .u32 e2.al, .int .u64 e2.mp, .int .u32 e2.ml, .string e2.pr, .int .u8 e2.parts, .bool e2.done, .slice A3 e2.ws.length c3]) #[.int .i64 e2.k, .int .u32 e2.bc, .int .u32 e2.bn, .int .u64 e2.sp, .int .u32 e2.sl, .int .u64 e2.ap, .int .u32 e2.al, .int .u64 e2.mp, .int .u32 e2.ml, .string e2.pr, .int .u8 e2.parts, .bool e2.done, .slice A3 e2.ws.length c3] rfl rfl rfl 30 _ #[.int .i64 e2.k, .int .u32 e2.bc, .int .u32 e2.bn, .int .u64 e2.sp, .int .u32 e2.sl, .int .u64 e2.ap, .int .u32 e2.al, .int .u64 e2.mp, .int .u32 e2.ml, .string e2.pr, .int .u8 e2.parts, .bool e2.done, .slice A3 e2.ws.length c3] HZ6.out (by kernel_rfl) (by show 0 + 13 ≤ 13; decide) (by kernel_rfl) (by kernel_rfl) ?_; intro w8 hq hk hb; have HX8 := Lib.hid (blk_keep2 HY6.out hk HNE.out); have HZ8 := Lib.hid hq; have HB8 := Lib.hid (hb _ _ HGE.out HB7.out); have HC8 := Lib.hid (hb _ _ (Nat.le_refl _) HC7.out); clear hq hk hb) | (first | ((with_reducible refine gate_dst (N := 56) rfl ?_); refine wpList_load_row rfl 30 (.tmp 7) rfl w6.heap.size rfl 30 _ (0, 0) _ HZ8.out Try.underlying30 rfl (by kernel_rfl) ?_) | ((with_reducible refine gate_dst (N := 56) rfl ?_); refine gate_guard (by rfl) ?_; refine wpList_load_row rfl 30 (.tmp 7) rfl w6.heap.size rfl 30 _ (0, 0) _ HZ8.out Try.underlying30 rfl (by kernel_rfl) ?_)) | (first | ((with_reducible refine gate_dst (N := 57) rfl ?_); refine wpList_load_row rfl 30 (.tmp 1) rfl ge rfl 30 _ (0, 0) _ HX8.out Try.underlying30 rfl (by kernel_rfl) ?_) | ((with_reducible refine gate_dst (N := 57) rfl ?_); refine gate_guard (by rfl) ?_; refine wpList_load_row rfl 30 (.tmp 1) rfl ge rfl 30 _ (0, 0) _ HX8.out Try.underlying30 rfl (by kernel_rfl) ?_)))
  have HI8 := Lib.hid (HI6.out.below HC8.out)
  refine (HSM.out _ _ _ HB8.out HI8.out).mono ?_
  rintro r w9 ⟨rfl, hB⟩
  have HB9 := Lib.hid (bel_then HB8.out hB)
  clear hB
  go_wp2_with fail
  go_ret
  exact ⟨rfl, HB9.out⟩
theorem walk_EntryWrites {H : Type} {enc : TypeId × Value → H} (W : World) (v0 : Value) (d0 : DataW H) (p0 : List MemPlace)
    (h0 : DataW.Trod enc Try.prog W 0 (fun _ => true) true 30 v0 d0 p0) {base0 : Nat} (u0 : Value.okWide Try.prog W .any base0 30 v0) (z0 : ∀ n ∈ DataW.weights Try.prog 30 d0, n ≤ reachBytes) :
    Calls Try.prog 3 #[v0] W fun e w' => e = .returned (.bool true) ∧ Below W.heap.size W w' := by
  obtain ⟨e, A, c, rfl, hA, okA⟩ := entry_open W v0 d0 p0 h0 u0
  by_cases hl : 100 < e.ws.length
  · cases hr : rightE (⟨e.k, e.bc, e.bn, e.sp, e.sl, e.ap, e.al, e.mp, e.ml, e.pr, e.parts, e.done, e.ws.take 100⟩ : En) with
    | true => exact ewrites_by e A c W okA hA hl hr
    | false => exact ewrites_bn e A c W okA hA hl hr
  · cases hr : rightE e with
    | true => exact ewrites_sy e A c W okA hA hl hr
    | false => exact ewrites_sn e A c W okA hA hl hr
end Go.Proofs.Ytblabgdkbcphkaa

/- entry.Write, kind by kind. Conditions: those that each theorem names. -/
import Derived.Test.YtblabgdkbcphkaaEg
import Derived.Deep.MidRow
import Derived.Laws.Rows
set_option linter.unusedVariables false
set_option linter.unusedSimpArgs false
set_option linter.constructorNameAsVariable false
namespace Go.Proofs.Ytblabgdkbcphkaa
open Go.RowKit Go.Proofs.YtblabgdkbcphkaaW.PrintWords Go.Proofs.Ytblabgdkbcphkaa.PEs

set_option maxRecDepth 100000 in
set_option maxHeartbeats 16000000 in
theorem write_1 (e : En) (A : Option Addr) (c : Nat) (w : World) (hk : e.k = 1) (hok : EOk e) (hr : rightE e = true) (hC : Kd.C k54 w A e.ws.length e.ws) :
    Calls Try.prog 8 #[.agg #[.int .i64 e.k, .int .u32 e.bc, .int .u32 e.bn, .int .u64 e.sp, .int .u32 e.sl, .int .u64 e.ap, .int .u32 e.al, .int .u64 e.mp, .int .u32 e.ml, .string e.pr, .int .u8 e.parts, .bool e.done, .slice A e.ws.length c]] w fun r w' => r = .returned (.tuple #[.string (encE e), .int .i64 0]) ∧ Below w.heap.size w w' := by
  have HRI := Lib.hid (fun W (hb : Below w.heap.size w W) => (right_calls e A c W (Kd.C_below hC hb) hok.ws).mono fun r w' (h : r = .returned (.bool (rightE e)) ∧ Below W.heap.size W w') => (⟨by rw [h.1, hr], h.2⟩ : r = .returned (.bool true) ∧ Below W.heap.size W w'))
  have HFI := Lib.hid (fun W => fieldsB_calls e.k 8 (by rw [hk]; rfl) W)
  obtain ⟨-, -, ⟨g1, g2⟩, ⟨g3, g4⟩, ⟨g5, g6⟩, -⟩ := right_facts e hr
  have hn0 := right_nows e hr (by rw [hk]; rfl)
  obtain ⟨-, ⟨hb1, hb2⟩, ⟨hb3, hb4⟩, ⟨hb5, hb6⟩, ⟨hb7, hb8⟩, ⟨hb9, hb10⟩, ⟨hb11, hb12⟩, ⟨hb13, hb14⟩, ⟨hb15, hb16⟩, ⟨hb17, hb18⟩, -⟩ := hok
  clear hC hr
  obtain ⟨k, bc, bn, sp, sl, ap, al, mp, ml, pr, parts, done, ws⟩ := e
  dsimp only at *
  subst hk
  subst hn0
  have b1 : bits .and .i64 8 1 = 0 := by kernel_rfl
  have b2 : bits .and .i64 8 2 = 0 := by kernel_rfl
  have b4 : bits .and .i64 8 4 = 0 := by kernel_rfl
  have b8 : bits .and .i64 8 8 = 8 := by kernel_rfl
  have b16 : bits .and .i64 8 16 = 0 := by kernel_rfl
  have b32 : bits .and .i64 8 32 = 0 := by kernel_rfl
  have b96 : bits .and .i64 8 96 = 0 := by kernel_rfl
  have b128 : bits .and .i64 8 128 = 0 := by kernel_rfl
  have b256 : bits .and .i64 8 256 = 0 := by kernel_rfl
  go_enter Try.func8, Try.ntmps8
  go_upto_region 0 with (fail)
  go_step
  (with_reducible refine gate_dst (N := 1) rfl ?_)
  refine box_event ?hg (N := 1) ?hd (cs := #[(.int .i64 1), (.int .u32 bc), (.int .u32 bn), (.int .u64 sp), (.int .u32 sl), (.int .u64 ap), (.int .u32 al), (.int .u64 mp), (.int .u32 ml), (.string pr), (.int .u8 parts), (.bool done), (.slice A ([] : List S54).length c)]) (t := 30) ?hr ?_
  case hd => rfl
  case hg => rfl
  case hr => kernel_rfl
  intro gb hgb w1 hbox hbb
  have HB1 := Lib.hid hbb
  have HX1 := Lib.hid hbox
  clear hgb hbox hbb
  go_wp2_with ((with_reducible refine gate_dst (N := 8) rfl ?_); refine wpList_load_row rfl 30 (.tmp 1) rfl gb rfl 30 _ (0, 0) _ HX1.out Try.underlying30 rfl (by kernel_rfl) ?_)
  refine (HRI.out _ HB1.out).mono ?_
  rintro r w2 ⟨rfl, hb⟩
  have HX2 := Lib.hid ((hb.block _ (lt_at2 HX1.out)).trans HX1.out)
  have HB2 := Lib.hid (HB1.out.trans (hb.mono HB1.out.size))
  clear hb HX1 HB1 HRI
  have x0 : w2.cell? ⟨gb, 0, none⟩ = some (.int .i64 1) := (blk_cell HX2.out 0).trans rfl
  go_wp2_with fail
  refine (HFI.out _).mono ?_
  rintro r w3 ⟨rfl, hb⟩
  have HX3 := Lib.hid ((hb.block _ (lt_at2 HX2.out)).trans HX2.out)
  have HB3 := Lib.hid (HB2.out.trans (hb.mono HB2.out.size))
  clear hb HX2 HB2 HFI x0
  go_upto_region 4 with (fail)
  go_step
  go_step
  go_step
  go_step
  (with_reducible refine gate_dst (N := 15) rfl ?_)
  refine box_event ?hg (N := 15) ?hd (cs := #[.slice none 0 0]) (t := 49) ?hr ?_
  case hd => rfl
  case hg => rfl
  case hr => kernel_rfl
  intro g hgg w4 hbox hbb
  have HI : Hid (IsS49 w w4 g ByteArray.empty) := Lib.hid (made_at hbox (by rw [hgg]; exact HB3.out.size))
  have HX := Lib.hid ((hbb.block _ (lt_at2 HX3.out)).trans HX3.out)
  have HB := Lib.hid (HB3.out.trans (hbb.mono HB3.out.size))
  have HNE : Hid (gb ≠ g) := Lib.hid (by have := lt_at2 HX3.out; omega)
  obtain ⟨m0, hm0⟩ : ∃ m, m = ByteArray.empty := ⟨_, rfl⟩
  have z0 : m0.size ≤ 0 := by rw [hm0]; exact Nat.le_refl _
  rw [← hm0] at HI
  have HU0 := Lib.hid hm0
  clear hgg hbox hbb HX3 HB3 hm0
  have d0 := (blk_cell HX.out 0).trans (show _ = some (.int .i64 1) from rfl)
  have hz := z0
  go_wp2_with fail
  refine (wnum w _ g m0 (1) (by omega) (by omega) HI.out HB.out (by omega)).mono ?_
  clear d0
  clear hz
  rintro r u1w ⟨rfl, hI, hB, hK⟩
  have hX := (KeepW.block hK HI.out gb HNE.out HX.out (by decide)).trans HX.out
  obtain ⟨m1, hu⟩ : ∃ u, u = m0 ++ encB (1) := ⟨_, rfl⟩
  have z1 : m1.size ≤ 9 := by rw [hu, ByteArray.size_append]; have := bz (1) ⟨by omega, by omega⟩; omega
  replace hI : IsS49 w u1w g m1 := by rw [hu]; exact hI
  have HU1 := Lib.hid hu
  replace HX := Lib.hid hX
  replace HI := Lib.hid hI
  replace HB := Lib.hid hB
  clear hI hB hK hX hu
  have d5 := (blk_cell HX.out 5).trans (show _ = some (.int .u64 ap) from rfl)
  have d6 := (blk_cell HX.out 6).trans (show _ = some (.int .u32 al) from rfl)
  have hz := z1
  go_wp2_with fail
  refine (wstamp w _ g m1 ap al ⟨by omega, by omega⟩ ⟨by omega, by omega⟩ HI.out HB.out (by omega)).mono ?_
  rw [ByteArray.append_assoc]
  clear d5
  clear d6
  clear hz
  rintro r u2w ⟨rfl, hI, hB, hK⟩
  have hX := (KeepW.block hK HI.out gb HNE.out HX.out (by decide)).trans HX.out
  obtain ⟨m2, hu⟩ : ∃ u, u = m1 ++ (encB ap ++ encB al) := ⟨_, rfl⟩
  have z2 : m2.size ≤ 27 := by rw [hu, ByteArray.size_append]; have := bz ap ⟨by omega, by omega⟩; have := bz al ⟨by omega, by omega⟩; rw [ByteArray.size_append]; omega
  replace hI : IsS49 w u2w g m2 := by rw [hu]; exact hI
  have HU2 := Lib.hid hu
  replace HX := Lib.hid hX
  replace HI := Lib.hid hI
  replace HB := Lib.hid hB
  clear hI hB hK hX hu
  have d12 := (blk_cell HX.out 12).trans (show _ = some (.slice A ([] : List S54).length c) from rfl)
  go_wp2_with fail
  clear d12
  go_loop [76] (fun i => i = .int .i64 0) (fun _ => 1)
  case atStart => rfl
  case round =>
  subst hrel
  go_wp2_with fail
  refine (wbytes w _ g _ HI.out HB.out).mono ?_
  rintro r wl ⟨rfl, hI, hB, hK⟩
  replace HB := Lib.hid hB
  clear hI hB hK
  have HE : Hid (m2 = encE ⟨1, bc, bn, sp, sl, ap, al, mp, ml, pr, parts, done, []⟩) := Lib.hid (by
    rw [HU2.out, HU1.out, HU0.out]
    simp [encE, hB, hS, hM, hA, hT, hD, encs, ByteArray.append_assoc])
  go_wp2_with fail
  go_ret2
  exact ⟨by rw [← HE.out]; rfl, HB.out⟩
set_option maxRecDepth 100000 in
set_option maxHeartbeats 16000000 in
theorem write_2 (e : En) (A : Option Addr) (c : Nat) (w : World) (hk : e.k = 2) (hok : EOk e) (hr : rightE e = true) (hC : Kd.C k54 w A e.ws.length e.ws) :
    Calls Try.prog 8 #[.agg #[.int .i64 e.k, .int .u32 e.bc, .int .u32 e.bn, .int .u64 e.sp, .int .u32 e.sl, .int .u64 e.ap, .int .u32 e.al, .int .u64 e.mp, .int .u32 e.ml, .string e.pr, .int .u8 e.parts, .bool e.done, .slice A e.ws.length c]] w fun r w' => r = .returned (.tuple #[.string (encE e), .int .i64 0]) ∧ Below w.heap.size w w' := by
  have HRI := Lib.hid (fun W (hb : Below w.heap.size w W) => (right_calls e A c W (Kd.C_below hC hb) hok.ws).mono fun r w' (h : r = .returned (.bool (rightE e)) ∧ Below W.heap.size W w') => (⟨by rw [h.1, hr], h.2⟩ : r = .returned (.bool true) ∧ Below W.heap.size W w'))
  have HFI := Lib.hid (fun W => fieldsB_calls e.k 55 (by rw [hk]; rfl) W)
  obtain ⟨-, -, ⟨g1, g2⟩, ⟨g3, g4⟩, ⟨g5, g6⟩, -⟩ := right_facts e hr
  obtain ⟨hws, hall⟩ := right_ws e hr
  have HwsE : Hid (∀ x ∈ e.ws, x.f0.size ≤ 32 ∧ x.f1.size ≤ 256) := Lib.hid (fun x hx => ⟨(hall x hx).1.2, (hall x hx).2⟩)
  have Hws : Hid (∀ x ∈ e.ws, (encW x).size ≤ 400) := Lib.hid (fun x hx => encW_size x (HwsE.out x hx))
  clear hall
  have HCws := Lib.hid hC
  have hpr := (right_pr e hr hk).1.2
  obtain ⟨-, ⟨hb1, hb2⟩, ⟨hb3, hb4⟩, ⟨hb5, hb6⟩, ⟨hb7, hb8⟩, ⟨hb9, hb10⟩, ⟨hb11, hb12⟩, ⟨hb13, hb14⟩, ⟨hb15, hb16⟩, ⟨hb17, hb18⟩, -⟩ := hok
  clear hC hr
  obtain ⟨k, bc, bn, sp, sl, ap, al, mp, ml, pr, parts, done, ws⟩ := e
  dsimp only at *
  subst hk
  have b1 : bits .and .i64 55 1 = 1 := by kernel_rfl
  have b2 : bits .and .i64 55 2 = 2 := by kernel_rfl
  have b4 : bits .and .i64 55 4 = 4 := by kernel_rfl
  have b8 : bits .and .i64 55 8 = 0 := by kernel_rfl
  have b16 : bits .and .i64 55 16 = 16 := by kernel_rfl
  have b32 : bits .and .i64 55 32 = 32 := by kernel_rfl
  have b96 : bits .and .i64 55 96 = 32 := by kernel_rfl
  have b128 : bits .and .i64 55 128 = 0 := by kernel_rfl
  have b256 : bits .and .i64 55 256 = 0 := by kernel_rfl
  go_enter Try.func8, Try.ntmps8
  go_upto_region 0 with (fail)
  go_step
  (with_reducible refine gate_dst (N := 1) rfl ?_)
  refine box_event ?hg (N := 1) ?hd (cs := #[(.int .i64 2), (.int .u32 bc), (.int .u32 bn), (.int .u64 sp), (.int .u32 sl), (.int .u64 ap), (.int .u32 al), (.int .u64 mp), (.int .u32 ml), (.string pr), (.int .u8 parts), (.bool done), (.slice A ws.length c)]) (t := 30) ?hr ?_
  case hd => rfl
  case hg => rfl
  case hr => kernel_rfl
  intro gb hgb w1 hbox hbb
  have HB1 := Lib.hid hbb
  have HX1 := Lib.hid hbox
  clear hgb hbox hbb
  go_wp2_with ((with_reducible refine gate_dst (N := 8) rfl ?_); refine wpList_load_row rfl 30 (.tmp 1) rfl gb rfl 30 _ (0, 0) _ HX1.out Try.underlying30 rfl (by kernel_rfl) ?_)
  refine (HRI.out _ HB1.out).mono ?_
  rintro r w2 ⟨rfl, hb⟩
  have HX2 := Lib.hid ((hb.block _ (lt_at2 HX1.out)).trans HX1.out)
  have HB2 := Lib.hid (HB1.out.trans (hb.mono HB1.out.size))
  clear hb HX1 HB1 HRI
  have x0 : w2.cell? ⟨gb, 0, none⟩ = some (.int .i64 2) := (blk_cell HX2.out 0).trans rfl
  go_wp2_with fail
  refine (HFI.out _).mono ?_
  rintro r w3 ⟨rfl, hb⟩
  have HX3 := Lib.hid ((hb.block _ (lt_at2 HX2.out)).trans HX2.out)
  have HB3 := Lib.hid (HB2.out.trans (hb.mono HB2.out.size))
  clear hb HX2 HB2 HFI x0
  go_upto_region 4 with (fail)
  go_step
  go_step
  go_step
  go_step
  (with_reducible refine gate_dst (N := 15) rfl ?_)
  refine box_event ?hg (N := 15) ?hd (cs := #[.slice none 0 0]) (t := 49) ?hr ?_
  case hd => rfl
  case hg => rfl
  case hr => kernel_rfl
  intro g hgg w4 hbox hbb
  have HI : Hid (IsS49 w w4 g ByteArray.empty) := Lib.hid (made_at hbox (by rw [hgg]; exact HB3.out.size))
  have HX := Lib.hid ((hbb.block _ (lt_at2 HX3.out)).trans HX3.out)
  have HB := Lib.hid (HB3.out.trans (hbb.mono HB3.out.size))
  have HNE : Hid (gb ≠ g) := Lib.hid (by have := lt_at2 HX3.out; omega)
  obtain ⟨m0, hm0⟩ : ∃ m, m = ByteArray.empty := ⟨_, rfl⟩
  have z0 : m0.size ≤ 0 := by rw [hm0]; exact Nat.le_refl _
  rw [← hm0] at HI
  have HU0 := Lib.hid hm0
  clear hgg hbox hbb HX3 HB3 hm0
  have d0 := (blk_cell HX.out 0).trans (show _ = some (.int .i64 2) from rfl)
  have hz := z0
  go_wp2_with fail
  refine (wnum w _ g m0 (2) (by omega) (by omega) HI.out HB.out (by omega)).mono ?_
  clear d0
  clear hz
  rintro r u1w ⟨rfl, hI, hB, hK⟩
  have hX := (KeepW.block hK HI.out gb HNE.out HX.out (by decide)).trans HX.out
  obtain ⟨m1, hu⟩ : ∃ u, u = m0 ++ encB (2) := ⟨_, rfl⟩
  have z1 : m1.size ≤ 9 := by rw [hu, ByteArray.size_append]; have := bz (2) ⟨by omega, by omega⟩; omega
  replace hI : IsS49 w u1w g m1 := by rw [hu]; exact hI
  have HU1 := Lib.hid hu
  replace HX := Lib.hid hX
  replace HI := Lib.hid hI
  replace HB := Lib.hid hB
  clear hI hB hK hX hu
  have d1 := (blk_cell HX.out 1).trans (show _ = some (.int .u32 bc) from rfl)
  have hz := z1
  go_wp2_with fail
  refine (wnum w _ g m1 (bc) (by omega) (by omega) HI.out HB.out (by omega)).mono ?_
  clear d1
  clear hz
  rintro r u2w ⟨rfl, hI, hB, hK⟩
  have hX := (KeepW.block hK HI.out gb HNE.out HX.out (by decide)).trans HX.out
  obtain ⟨m2, hu⟩ : ∃ u, u = m1 ++ encB (bc) := ⟨_, rfl⟩
  have z2 : m2.size ≤ 18 := by rw [hu, ByteArray.size_append]; have := bz (bc) ⟨by omega, by omega⟩; omega
  replace hI : IsS49 w u2w g m2 := by rw [hu]; exact hI
  have HU2 := Lib.hid hu
  replace HX := Lib.hid hX
  replace HI := Lib.hid hI
  replace HB := Lib.hid hB
  clear hI hB hK hX hu
  have d2 := (blk_cell HX.out 2).trans (show _ = some (.int .u32 bn) from rfl)
  have hz := z2
  go_wp2_with fail
  refine (wnum w _ g m2 (bn) (by omega) (by omega) HI.out HB.out (by omega)).mono ?_
  clear d2
  clear hz
  rintro r u3w ⟨rfl, hI, hB, hK⟩
  have hX := (KeepW.block hK HI.out gb HNE.out HX.out (by decide)).trans HX.out
  obtain ⟨m3, hu⟩ : ∃ u, u = m2 ++ encB (bn) := ⟨_, rfl⟩
  have z3 : m3.size ≤ 27 := by rw [hu, ByteArray.size_append]; have := bz (bn) ⟨by omega, by omega⟩; omega
  replace hI : IsS49 w u3w g m3 := by rw [hu]; exact hI
  have HU3 := Lib.hid hu
  replace HX := Lib.hid hX
  replace HI := Lib.hid hI
  replace HB := Lib.hid hB
  clear hI hB hK hX hu
  have d3 := (blk_cell HX.out 3).trans (show _ = some (.int .u64 sp) from rfl)
  have d4 := (blk_cell HX.out 4).trans (show _ = some (.int .u32 sl) from rfl)
  have hz := z3
  go_wp2_with fail
  refine (wstamp w _ g m3 sp sl ⟨by omega, by omega⟩ ⟨by omega, by omega⟩ HI.out HB.out (by omega)).mono ?_
  rw [ByteArray.append_assoc]
  clear d3
  clear d4
  clear hz
  rintro r u4w ⟨rfl, hI, hB, hK⟩
  have hX := (KeepW.block hK HI.out gb HNE.out HX.out (by decide)).trans HX.out
  obtain ⟨m4, hu⟩ : ∃ u, u = m3 ++ (encB sp ++ encB sl) := ⟨_, rfl⟩
  have z4 : m4.size ≤ 45 := by rw [hu, ByteArray.size_append]; have := bz sp ⟨by omega, by omega⟩; have := bz sl ⟨by omega, by omega⟩; rw [ByteArray.size_append]; omega
  replace hI : IsS49 w u4w g m4 := by rw [hu]; exact hI
  have HU4 := Lib.hid hu
  replace HX := Lib.hid hX
  replace HI := Lib.hid hI
  replace HB := Lib.hid hB
  clear hI hB hK hX hu
  have d7 := (blk_cell HX.out 7).trans (show _ = some (.int .u64 mp) from rfl)
  have d8 := (blk_cell HX.out 8).trans (show _ = some (.int .u32 ml) from rfl)
  have hz := z4
  go_wp2_with fail
  refine (wstamp w _ g m4 mp ml ⟨by omega, by omega⟩ ⟨by omega, by omega⟩ HI.out HB.out (by omega)).mono ?_
  rw [ByteArray.append_assoc]
  clear d7
  clear d8
  clear hz
  rintro r u5w ⟨rfl, hI, hB, hK⟩
  have hX := (KeepW.block hK HI.out gb HNE.out HX.out (by decide)).trans HX.out
  obtain ⟨m5, hu⟩ : ∃ u, u = m4 ++ (encB mp ++ encB ml) := ⟨_, rfl⟩
  have z5 : m5.size ≤ 63 := by rw [hu, ByteArray.size_append]; have := bz mp ⟨by omega, by omega⟩; have := bz ml ⟨by omega, by omega⟩; rw [ByteArray.size_append]; omega
  replace hI : IsS49 w u5w g m5 := by rw [hu]; exact hI
  have HU5 := Lib.hid hu
  replace HX := Lib.hid hX
  replace HI := Lib.hid hI
  replace HB := Lib.hid hB
  clear hI hB hK hX hu
  have d9 := (blk_cell HX.out 9).trans (show _ = some (.string pr) from rfl)
  have hz := z5
  go_wp2_with fail
  refine (wtext w _ g m5 pr HI.out HB.out (by omega)).mono ?_
  rw [ByteArray.append_assoc]
  clear d9
  clear hz
  rintro r u6w ⟨rfl, hI, hB, hK⟩
  have hX := (KeepW.block hK HI.out gb HNE.out HX.out (by decide)).trans HX.out
  obtain ⟨m6, hu⟩ : ∃ u, u = m5 ++ txE pr := ⟨_, rfl⟩
  have z6 : m6.size ≤ 104 := by rw [hu, ByteArray.size_append]; have := tz pr 32 (by omega) (by omega); omega
  replace hI : IsS49 w u6w g m6 := by rw [hu]; exact hI
  have HU6 := Lib.hid hu
  replace HX := Lib.hid hX
  replace HI := Lib.hid hI
  replace HB := Lib.hid hB
  clear hI hB hK hX hu
  have d12 := (blk_cell HX.out 12).trans (show _ = some (.slice A ws.length c) from rfl)
  have hz := z6
  go_wp2_with fail
  refine (wnum w _ g m6 ((ws.length : Int)) (by omega) (by omega) HI.out HB.out (by omega)).mono ?_
  clear d12
  clear hz
  rintro r u7w ⟨rfl, hI, hB, hK⟩
  have hX := (KeepW.block hK HI.out gb HNE.out HX.out (by decide)).trans HX.out
  obtain ⟨m7, hu⟩ : ∃ u, u = m6 ++ encB ((ws.length : Int)) := ⟨_, rfl⟩
  have z7 : m7.size ≤ 113 := by rw [hu, ByteArray.size_append]; have := bz ((ws.length : Int)) ⟨by omega, by omega⟩; omega
  replace hI : IsS49 w u7w g m7 := by rw [hu]; exact hI
  have HU7 := Lib.hid hu
  replace HX := Lib.hid hX
  replace HI := Lib.hid hI
  replace HB := Lib.hid hB
  clear hI hB hK hX hu
  have d12 := (blk_cell HX.out 12).trans (show _ = some (.slice A ws.length c) from rfl)
  have hz := z7
  go_wp2_with fail
  clear d12
  go_loopg [76] (ws.length + 1) (fun gk v76 wr => ∃ i : Nat, i ≤ ws.length ∧ v76 = .int .i64 (i : Int) ∧ Aside0 (i + gk = ws.length + 1) ∧ Aside0 (IsS49 w wr g (m7 ++ encs encW (ws.take i)) ∧ Below w.heap.size w wr ∧ wr.heap[gb]? = some (.cells #[(.int .i64 2), (.int .u32 bc), (.int .u32 bn), (.int .u64 sp), (.int .u32 sl), (.int .u64 ap), (.int .u32 al), (.int .u64 mp), (.int .u32 ml), (.string pr), (.int .u8 parts), (.bool done), (.slice A ws.length c)] 30 (0, 0))))
  case atStart => exact ⟨0, Nat.zero_le _, rfl, ⟨by omega⟩, ⟨by rw [List.take_zero, encs, ByteArray.append_empty]; exact HI.out, HB.out, HX.out⟩⟩
  case round =>
  obtain ⟨i, hi, rfl, ⟨hg⟩, ⟨hI, hB, hX⟩⟩ := hrel
  have HG := Lib.hid hg
  replace HI := Lib.hid hI
  replace HB := Lib.hid hB
  replace HX := Lib.hid hX
  clear hg hI hB hX
  rcases (show i < ws.length ∨ i = ws.length by omega) with hlt | rfl
  · have hsz := encs_size encW 400 (ws.take i) (fun x hx => Hws.out x (List.mem_of_mem_take hx))
    have hel := HwsE.out (ws[i]) (List.getElem_mem hlt)
    obtain ⟨U, hU⟩ : ∃ U, U = m7 ++ encs encW (ws.take i) := ⟨_, rfl⟩
    have hUz : U.size ≤ 6513 := by
      rw [hU, ByteArray.size_append]
      have h1 : (ws.take i).length ≤ 16 := by rw [List.length_take]; omega
      have h2 : (ws.take i).length * 400 ≤ 16 * 400 := Nat.mul_le_mul_right _ h1
      omega
    rw [← hU] at HI
    have HU := Lib.hid hU
    obtain ⟨ad, rfl, k0, k1, k2⟩ := at_T54 (Kd.C_below HCws.out HB.out) (i : Int) (by omega) (by omega)
    rw [Int.toNat_natCast] at k0 k1 k2
    have HE := Lib.hid (rd_at ws i hlt)
    rw [← HE.out] at hel
    generalize rd_T54 ws (i : Int) = x at *
    obtain ⟨x0, x1, x2⟩ := x
    dsimp only at *
    have HNX : Hid (wr.heap.size ≠ g) := Lib.hid (by have := HI.out.lt; omega)
    have HY := Lib.hid (heap_alloc_new wr (.cells #[.string x0, .string x1, .bool x2] 54))
    have HX2 := Lib.hid (((below_alloc (Below.refl wr.heap.size wr) (.cells #[.string x0, .string x1, .bool x2] 54)).block _ (lt_at2 HX.out)).trans HX.out)
    have HI2 := Lib.hid (HI.out.alloc (.cells #[.string x0, .string x1, .bool x2] 54))
    have HB2 := Lib.hid (below_alloc' HB.out (.cells #[.string x0, .string x1, .bool x2] 54))
    clear hU hsz HI HB HX
    go_wp2_with fail
    refine (wtext w _ g U x0 HI2.out HB2.out (by omega)).mono ?_
    rw [ByteArray.append_assoc]
    rintro r y0 ⟨rfl, hI, hB, hK⟩
    have hX := (KeepW.block hK HI2.out gb HNE.out HX2.out (by decide)).trans HX2.out
    have hY := (KeepW.block hK HI2.out wr.heap.size HNX.out HY.out (by decide)).trans HY.out
    obtain ⟨v0, hu⟩ : ∃ u, u = U ++ txE x0 := ⟨_, rfl⟩
    have q0 : v0.size ≤ U.size + 265 := by rw [hu, ByteArray.size_append]; have := tz x0 256 (by omega) (by omega); omega
    replace hI : IsS49 w y0 g v0 := by rw [hu]; exact hI
    have HV0 := Lib.hid hu
    replace HX2 := Lib.hid hX
    replace HY := Lib.hid hY
    replace HI2 := Lib.hid hI
    replace HB2 := Lib.hid hB
    clear hI hB hK hX hY hu
    have e2 := (blk_cell HY.out 2).trans (show _ = some (.bool x2) from rfl)
    go_wp2_with fail
    refine (wflag w _ g v0 x2 HI2.out HB2.out (by omega)).mono ?_
    rintro r y1 ⟨rfl, hI, hB, hK⟩
    have hX := (KeepW.block hK HI2.out gb HNE.out HX2.out (by decide)).trans HX2.out
    have hY := (KeepW.block hK HI2.out wr.heap.size HNX.out HY.out (by decide)).trans HY.out
    obtain ⟨v1, hu⟩ : ∃ u, u = v0 ++ encF x2 := ⟨_, rfl⟩
    have q1 : v1.size ≤ v0.size + 1 := by rw [hu, ByteArray.size_append]; have := encF_size x2; omega
    replace hI : IsS49 w y1 g v1 := by rw [hu]; exact hI
    have HV1 := Lib.hid hu
    replace HX2 := Lib.hid hX
    replace HY := Lib.hid hY
    replace HI2 := Lib.hid hI
    replace HB2 := Lib.hid hB
    clear hI hB hK hX hY hu
    clear e2
    have e1 := (blk_cell HY.out 1).trans (show _ = some (.string x1) from rfl)
    go_wp2_with fail
    refine (wtext w _ g v1 x1 HI2.out HB2.out (by omega)).mono ?_
    rw [ByteArray.append_assoc]
    rintro r y2 ⟨rfl, hI, hB, hK⟩
    have hX := (KeepW.block hK HI2.out gb HNE.out HX2.out (by decide)).trans HX2.out
    have hY := (KeepW.block hK HI2.out wr.heap.size HNX.out HY.out (by decide)).trans HY.out
    obtain ⟨v2, hu⟩ : ∃ u, u = v1 ++ txE x1 := ⟨_, rfl⟩
    have q2 : v2.size ≤ v1.size + 265 := by rw [hu, ByteArray.size_append]; have := tz x1 256 (by omega) (by omega); omega
    replace hI : IsS49 w y2 g v2 := by rw [hu]; exact hI
    have HV2 := Lib.hid hu
    replace HX2 := Lib.hid hX
    replace HY := Lib.hid hY
    replace HI2 := Lib.hid hI
    replace HB2 := Lib.hid hB
    clear hI hB hK hX hY hu
    clear e1
    have HW : Hid (m7 ++ encs encW (ws.take (i + 1)) = v2) := Lib.hid (by
      rw [encs_take encW ws i hlt, ← HE.out, HV2.out, HV1.out, HV0.out, HU.out]
      simp only [encW, ByteArray.append_assoc])
    go_wp2
    go_roundg (gk - 1)
    case measure => have := HG.out; omega
    case rel => exact ⟨i + 1, by omega, by go_num, ⟨by have := HG.out; omega⟩, ⟨by rw [HW.out]; exact HI2.out, HB2.out, HX2.out⟩⟩
  have hsz := encs_size encW 400 ws (fun x hx => Hws.out x hx)
  rw [List.take_length] at HI
  obtain ⟨m8, hu⟩ : ∃ u, u = m7 ++ encs encW ws := ⟨_, rfl⟩
  have z8 : m8.size ≤ 6513 := by
    rw [hu, ByteArray.size_append]
    have h2 : ws.length * 400 ≤ 16 * 400 := Nat.mul_le_mul_right _ (by omega)
    omega
  rw [← hu] at HI
  have HU8 := Lib.hid hu
  clear hu hsz HG hz
  go_wp2_with fail
  refine (wbytes w _ g _ HI.out HB.out).mono ?_
  rintro r wl ⟨rfl, hI, hB, hK⟩
  replace HB := Lib.hid hB
  clear hI hB hK
  have HE : Hid (m8 = encE ⟨2, bc, bn, sp, sl, ap, al, mp, ml, pr, parts, done, ws⟩) := Lib.hid (by
    rw [HU8.out, HU7.out, HU6.out, HU5.out, HU4.out, HU3.out, HU2.out, HU1.out, HU0.out]
    simp [encE, hB, hS, hM, hA, hT, hD, encs, ByteArray.append_assoc])
  go_wp2_with fail
  go_ret2
  exact ⟨by rw [← HE.out]; rfl, HB.out⟩
set_option maxRecDepth 100000 in
set_option maxHeartbeats 16000000 in
theorem write_3 (e : En) (A : Option Addr) (c : Nat) (w : World) (hk : e.k = 3) (hok : EOk e) (hr : rightE e = true) (hC : Kd.C k54 w A e.ws.length e.ws) :
    Calls Try.prog 8 #[.agg #[.int .i64 e.k, .int .u32 e.bc, .int .u32 e.bn, .int .u64 e.sp, .int .u32 e.sl, .int .u64 e.ap, .int .u32 e.al, .int .u64 e.mp, .int .u32 e.ml, .string e.pr, .int .u8 e.parts, .bool e.done, .slice A e.ws.length c]] w fun r w' => r = .returned (.tuple #[.string (encE e), .int .i64 0]) ∧ Below w.heap.size w w' := by
  have HRI := Lib.hid (fun W (hb : Below w.heap.size w W) => (right_calls e A c W (Kd.C_below hC hb) hok.ws).mono fun r w' (h : r = .returned (.bool (rightE e)) ∧ Below W.heap.size W w') => (⟨by rw [h.1, hr], h.2⟩ : r = .returned (.bool true) ∧ Below W.heap.size W w'))
  have HFI := Lib.hid (fun W => fieldsB_calls e.k 139 (by rw [hk]; rfl) W)
  obtain ⟨-, -, ⟨g1, g2⟩, ⟨g3, g4⟩, ⟨g5, g6⟩, -⟩ := right_facts e hr
  have hn0 := right_nows e hr (by rw [hk]; rfl)
  obtain ⟨-, ⟨hb1, hb2⟩, ⟨hb3, hb4⟩, ⟨hb5, hb6⟩, ⟨hb7, hb8⟩, ⟨hb9, hb10⟩, ⟨hb11, hb12⟩, ⟨hb13, hb14⟩, ⟨hb15, hb16⟩, ⟨hb17, hb18⟩, -⟩ := hok
  clear hC hr
  obtain ⟨k, bc, bn, sp, sl, ap, al, mp, ml, pr, parts, done, ws⟩ := e
  dsimp only at *
  subst hk
  subst hn0
  have b1 : bits .and .i64 139 1 = 1 := by kernel_rfl
  have b2 : bits .and .i64 139 2 = 2 := by kernel_rfl
  have b4 : bits .and .i64 139 4 = 0 := by kernel_rfl
  have b8 : bits .and .i64 139 8 = 8 := by kernel_rfl
  have b16 : bits .and .i64 139 16 = 0 := by kernel_rfl
  have b32 : bits .and .i64 139 32 = 0 := by kernel_rfl
  have b96 : bits .and .i64 139 96 = 0 := by kernel_rfl
  have b128 : bits .and .i64 139 128 = 128 := by kernel_rfl
  have b256 : bits .and .i64 139 256 = 0 := by kernel_rfl
  go_enter Try.func8, Try.ntmps8
  go_upto_region 0 with (fail)
  go_step
  (with_reducible refine gate_dst (N := 1) rfl ?_)
  refine box_event ?hg (N := 1) ?hd (cs := #[(.int .i64 3), (.int .u32 bc), (.int .u32 bn), (.int .u64 sp), (.int .u32 sl), (.int .u64 ap), (.int .u32 al), (.int .u64 mp), (.int .u32 ml), (.string pr), (.int .u8 parts), (.bool done), (.slice A ([] : List S54).length c)]) (t := 30) ?hr ?_
  case hd => rfl
  case hg => rfl
  case hr => kernel_rfl
  intro gb hgb w1 hbox hbb
  have HB1 := Lib.hid hbb
  have HX1 := Lib.hid hbox
  clear hgb hbox hbb
  go_wp2_with ((with_reducible refine gate_dst (N := 8) rfl ?_); refine wpList_load_row rfl 30 (.tmp 1) rfl gb rfl 30 _ (0, 0) _ HX1.out Try.underlying30 rfl (by kernel_rfl) ?_)
  refine (HRI.out _ HB1.out).mono ?_
  rintro r w2 ⟨rfl, hb⟩
  have HX2 := Lib.hid ((hb.block _ (lt_at2 HX1.out)).trans HX1.out)
  have HB2 := Lib.hid (HB1.out.trans (hb.mono HB1.out.size))
  clear hb HX1 HB1 HRI
  have x0 : w2.cell? ⟨gb, 0, none⟩ = some (.int .i64 3) := (blk_cell HX2.out 0).trans rfl
  go_wp2_with fail
  refine (HFI.out _).mono ?_
  rintro r w3 ⟨rfl, hb⟩
  have HX3 := Lib.hid ((hb.block _ (lt_at2 HX2.out)).trans HX2.out)
  have HB3 := Lib.hid (HB2.out.trans (hb.mono HB2.out.size))
  clear hb HX2 HB2 HFI x0
  go_upto_region 4 with (fail)
  go_step
  go_step
  go_step
  go_step
  (with_reducible refine gate_dst (N := 15) rfl ?_)
  refine box_event ?hg (N := 15) ?hd (cs := #[.slice none 0 0]) (t := 49) ?hr ?_
  case hd => rfl
  case hg => rfl
  case hr => kernel_rfl
  intro g hgg w4 hbox hbb
  have HI : Hid (IsS49 w w4 g ByteArray.empty) := Lib.hid (made_at hbox (by rw [hgg]; exact HB3.out.size))
  have HX := Lib.hid ((hbb.block _ (lt_at2 HX3.out)).trans HX3.out)
  have HB := Lib.hid (HB3.out.trans (hbb.mono HB3.out.size))
  have HNE : Hid (gb ≠ g) := Lib.hid (by have := lt_at2 HX3.out; omega)
  obtain ⟨m0, hm0⟩ : ∃ m, m = ByteArray.empty := ⟨_, rfl⟩
  have z0 : m0.size ≤ 0 := by rw [hm0]; exact Nat.le_refl _
  rw [← hm0] at HI
  have HU0 := Lib.hid hm0
  clear hgg hbox hbb HX3 HB3 hm0
  have d0 := (blk_cell HX.out 0).trans (show _ = some (.int .i64 3) from rfl)
  have hz := z0
  go_wp2_with fail
  refine (wnum w _ g m0 (3) (by omega) (by omega) HI.out HB.out (by omega)).mono ?_
  clear d0
  clear hz
  rintro r u1w ⟨rfl, hI, hB, hK⟩
  have hX := (KeepW.block hK HI.out gb HNE.out HX.out (by decide)).trans HX.out
  obtain ⟨m1, hu⟩ : ∃ u, u = m0 ++ encB (3) := ⟨_, rfl⟩
  have z1 : m1.size ≤ 9 := by rw [hu, ByteArray.size_append]; have := bz (3) ⟨by omega, by omega⟩; omega
  replace hI : IsS49 w u1w g m1 := by rw [hu]; exact hI
  have HU1 := Lib.hid hu
  replace HX := Lib.hid hX
  replace HI := Lib.hid hI
  replace HB := Lib.hid hB
  clear hI hB hK hX hu
  have d1 := (blk_cell HX.out 1).trans (show _ = some (.int .u32 bc) from rfl)
  have hz := z1
  go_wp2_with fail
  refine (wnum w _ g m1 (bc) (by omega) (by omega) HI.out HB.out (by omega)).mono ?_
  clear d1
  clear hz
  rintro r u2w ⟨rfl, hI, hB, hK⟩
  have hX := (KeepW.block hK HI.out gb HNE.out HX.out (by decide)).trans HX.out
  obtain ⟨m2, hu⟩ : ∃ u, u = m1 ++ encB (bc) := ⟨_, rfl⟩
  have z2 : m2.size ≤ 18 := by rw [hu, ByteArray.size_append]; have := bz (bc) ⟨by omega, by omega⟩; omega
  replace hI : IsS49 w u2w g m2 := by rw [hu]; exact hI
  have HU2 := Lib.hid hu
  replace HX := Lib.hid hX
  replace HI := Lib.hid hI
  replace HB := Lib.hid hB
  clear hI hB hK hX hu
  have d2 := (blk_cell HX.out 2).trans (show _ = some (.int .u32 bn) from rfl)
  have hz := z2
  go_wp2_with fail
  refine (wnum w _ g m2 (bn) (by omega) (by omega) HI.out HB.out (by omega)).mono ?_
  clear d2
  clear hz
  rintro r u3w ⟨rfl, hI, hB, hK⟩
  have hX := (KeepW.block hK HI.out gb HNE.out HX.out (by decide)).trans HX.out
  obtain ⟨m3, hu⟩ : ∃ u, u = m2 ++ encB (bn) := ⟨_, rfl⟩
  have z3 : m3.size ≤ 27 := by rw [hu, ByteArray.size_append]; have := bz (bn) ⟨by omega, by omega⟩; omega
  replace hI : IsS49 w u3w g m3 := by rw [hu]; exact hI
  have HU3 := Lib.hid hu
  replace HX := Lib.hid hX
  replace HI := Lib.hid hI
  replace HB := Lib.hid hB
  clear hI hB hK hX hu
  have d3 := (blk_cell HX.out 3).trans (show _ = some (.int .u64 sp) from rfl)
  have d4 := (blk_cell HX.out 4).trans (show _ = some (.int .u32 sl) from rfl)
  have hz := z3
  go_wp2_with fail
  refine (wstamp w _ g m3 sp sl ⟨by omega, by omega⟩ ⟨by omega, by omega⟩ HI.out HB.out (by omega)).mono ?_
  rw [ByteArray.append_assoc]
  clear d3
  clear d4
  clear hz
  rintro r u4w ⟨rfl, hI, hB, hK⟩
  have hX := (KeepW.block hK HI.out gb HNE.out HX.out (by decide)).trans HX.out
  obtain ⟨m4, hu⟩ : ∃ u, u = m3 ++ (encB sp ++ encB sl) := ⟨_, rfl⟩
  have z4 : m4.size ≤ 45 := by rw [hu, ByteArray.size_append]; have := bz sp ⟨by omega, by omega⟩; have := bz sl ⟨by omega, by omega⟩; rw [ByteArray.size_append]; omega
  replace hI : IsS49 w u4w g m4 := by rw [hu]; exact hI
  have HU4 := Lib.hid hu
  replace HX := Lib.hid hX
  replace HI := Lib.hid hI
  replace HB := Lib.hid hB
  clear hI hB hK hX hu
  have d5 := (blk_cell HX.out 5).trans (show _ = some (.int .u64 ap) from rfl)
  have d6 := (blk_cell HX.out 6).trans (show _ = some (.int .u32 al) from rfl)
  have hz := z4
  go_wp2_with fail
  refine (wstamp w _ g m4 ap al ⟨by omega, by omega⟩ ⟨by omega, by omega⟩ HI.out HB.out (by omega)).mono ?_
  rw [ByteArray.append_assoc]
  clear d5
  clear d6
  clear hz
  rintro r u5w ⟨rfl, hI, hB, hK⟩
  have hX := (KeepW.block hK HI.out gb HNE.out HX.out (by decide)).trans HX.out
  obtain ⟨m5, hu⟩ : ∃ u, u = m4 ++ (encB ap ++ encB al) := ⟨_, rfl⟩
  have z5 : m5.size ≤ 63 := by rw [hu, ByteArray.size_append]; have := bz ap ⟨by omega, by omega⟩; have := bz al ⟨by omega, by omega⟩; rw [ByteArray.size_append]; omega
  replace hI : IsS49 w u5w g m5 := by rw [hu]; exact hI
  have HU5 := Lib.hid hu
  replace HX := Lib.hid hX
  replace HI := Lib.hid hI
  replace HB := Lib.hid hB
  clear hI hB hK hX hu
  have d12 := (blk_cell HX.out 12).trans (show _ = some (.slice A ([] : List S54).length c) from rfl)
  go_wp2_with fail
  clear d12
  go_loop [76] (fun i => i = .int .i64 0) (fun _ => 1)
  case atStart => rfl
  case round =>
  subst hrel
  have d10 := (blk_cell HX.out 10).trans (show _ = some (.int .u8 parts) from rfl)
  have hz := z5
  go_wp2_with fail
  refine (wnum w _ g m5 (parts) (by omega) (by omega) HI.out HB.out (by omega)).mono ?_
  clear d10
  clear hz
  rintro r u6w ⟨rfl, hI, hB, hK⟩
  have hX := (KeepW.block hK HI.out gb HNE.out HX.out (by decide)).trans HX.out
  obtain ⟨m6, hu⟩ : ∃ u, u = m5 ++ encB (parts) := ⟨_, rfl⟩
  have z6 : m6.size ≤ 72 := by rw [hu, ByteArray.size_append]; have := bz (parts) ⟨by omega, by omega⟩; omega
  replace hI : IsS49 w u6w g m6 := by rw [hu]; exact hI
  have HU6 := Lib.hid hu
  replace HX := Lib.hid hX
  replace HI := Lib.hid hI
  replace HB := Lib.hid hB
  clear hI hB hK hX hu
  go_wp2_with fail
  refine (wbytes w _ g _ HI.out HB.out).mono ?_
  rintro r wl ⟨rfl, hI, hB, hK⟩
  replace HB := Lib.hid hB
  clear hI hB hK
  have HE : Hid (m6 = encE ⟨3, bc, bn, sp, sl, ap, al, mp, ml, pr, parts, done, []⟩) := Lib.hid (by
    rw [HU6.out, HU5.out, HU4.out, HU3.out, HU2.out, HU1.out, HU0.out]
    simp [encE, hB, hS, hM, hA, hT, hD, encs, ByteArray.append_assoc])
  go_wp2_with fail
  go_ret2
  exact ⟨by rw [← HE.out]; rfl, HB.out⟩
set_option maxRecDepth 100000 in
set_option maxHeartbeats 16000000 in
theorem write_4 (e : En) (A : Option Addr) (c : Nat) (w : World) (hk : e.k = 4) (hok : EOk e) (hr : rightE e = true) (hC : Kd.C k54 w A e.ws.length e.ws) :
    Calls Try.prog 8 #[.agg #[.int .i64 e.k, .int .u32 e.bc, .int .u32 e.bn, .int .u64 e.sp, .int .u32 e.sl, .int .u64 e.ap, .int .u32 e.al, .int .u64 e.mp, .int .u32 e.ml, .string e.pr, .int .u8 e.parts, .bool e.done, .slice A e.ws.length c]] w fun r w' => r = .returned (.tuple #[.string (encE e), .int .i64 0]) ∧ Below w.heap.size w w' := by
  have HRI := Lib.hid (fun W (hb : Below w.heap.size w W) => (right_calls e A c W (Kd.C_below hC hb) hok.ws).mono fun r w' (h : r = .returned (.bool (rightE e)) ∧ Below W.heap.size W w') => (⟨by rw [h.1, hr], h.2⟩ : r = .returned (.bool true) ∧ Below W.heap.size W w'))
  have HFI := Lib.hid (fun W => fieldsB_calls e.k 9 (by rw [hk]; rfl) W)
  obtain ⟨-, -, ⟨g1, g2⟩, ⟨g3, g4⟩, ⟨g5, g6⟩, -⟩ := right_facts e hr
  have hn0 := right_nows e hr (by rw [hk]; rfl)
  obtain ⟨-, ⟨hb1, hb2⟩, ⟨hb3, hb4⟩, ⟨hb5, hb6⟩, ⟨hb7, hb8⟩, ⟨hb9, hb10⟩, ⟨hb11, hb12⟩, ⟨hb13, hb14⟩, ⟨hb15, hb16⟩, ⟨hb17, hb18⟩, -⟩ := hok
  clear hC hr
  obtain ⟨k, bc, bn, sp, sl, ap, al, mp, ml, pr, parts, done, ws⟩ := e
  dsimp only at *
  subst hk
  subst hn0
  have b1 : bits .and .i64 9 1 = 1 := by kernel_rfl
  have b2 : bits .and .i64 9 2 = 0 := by kernel_rfl
  have b4 : bits .and .i64 9 4 = 0 := by kernel_rfl
  have b8 : bits .and .i64 9 8 = 8 := by kernel_rfl
  have b16 : bits .and .i64 9 16 = 0 := by kernel_rfl
  have b32 : bits .and .i64 9 32 = 0 := by kernel_rfl
  have b96 : bits .and .i64 9 96 = 0 := by kernel_rfl
  have b128 : bits .and .i64 9 128 = 0 := by kernel_rfl
  have b256 : bits .and .i64 9 256 = 0 := by kernel_rfl
  go_enter Try.func8, Try.ntmps8
  go_upto_region 0 with (fail)
  go_step
  (with_reducible refine gate_dst (N := 1) rfl ?_)
  refine box_event ?hg (N := 1) ?hd (cs := #[(.int .i64 4), (.int .u32 bc), (.int .u32 bn), (.int .u64 sp), (.int .u32 sl), (.int .u64 ap), (.int .u32 al), (.int .u64 mp), (.int .u32 ml), (.string pr), (.int .u8 parts), (.bool done), (.slice A ([] : List S54).length c)]) (t := 30) ?hr ?_
  case hd => rfl
  case hg => rfl
  case hr => kernel_rfl
  intro gb hgb w1 hbox hbb
  have HB1 := Lib.hid hbb
  have HX1 := Lib.hid hbox
  clear hgb hbox hbb
  go_wp2_with ((with_reducible refine gate_dst (N := 8) rfl ?_); refine wpList_load_row rfl 30 (.tmp 1) rfl gb rfl 30 _ (0, 0) _ HX1.out Try.underlying30 rfl (by kernel_rfl) ?_)
  refine (HRI.out _ HB1.out).mono ?_
  rintro r w2 ⟨rfl, hb⟩
  have HX2 := Lib.hid ((hb.block _ (lt_at2 HX1.out)).trans HX1.out)
  have HB2 := Lib.hid (HB1.out.trans (hb.mono HB1.out.size))
  clear hb HX1 HB1 HRI
  have x0 : w2.cell? ⟨gb, 0, none⟩ = some (.int .i64 4) := (blk_cell HX2.out 0).trans rfl
  go_wp2_with fail
  refine (HFI.out _).mono ?_
  rintro r w3 ⟨rfl, hb⟩
  have HX3 := Lib.hid ((hb.block _ (lt_at2 HX2.out)).trans HX2.out)
  have HB3 := Lib.hid (HB2.out.trans (hb.mono HB2.out.size))
  clear hb HX2 HB2 HFI x0
  go_upto_region 4 with (fail)
  go_step
  go_step
  go_step
  go_step
  (with_reducible refine gate_dst (N := 15) rfl ?_)
  refine box_event ?hg (N := 15) ?hd (cs := #[.slice none 0 0]) (t := 49) ?hr ?_
  case hd => rfl
  case hg => rfl
  case hr => kernel_rfl
  intro g hgg w4 hbox hbb
  have HI : Hid (IsS49 w w4 g ByteArray.empty) := Lib.hid (made_at hbox (by rw [hgg]; exact HB3.out.size))
  have HX := Lib.hid ((hbb.block _ (lt_at2 HX3.out)).trans HX3.out)
  have HB := Lib.hid (HB3.out.trans (hbb.mono HB3.out.size))
  have HNE : Hid (gb ≠ g) := Lib.hid (by have := lt_at2 HX3.out; omega)
  obtain ⟨m0, hm0⟩ : ∃ m, m = ByteArray.empty := ⟨_, rfl⟩
  have z0 : m0.size ≤ 0 := by rw [hm0]; exact Nat.le_refl _
  rw [← hm0] at HI
  have HU0 := Lib.hid hm0
  clear hgg hbox hbb HX3 HB3 hm0
  have d0 := (blk_cell HX.out 0).trans (show _ = some (.int .i64 4) from rfl)
  have hz := z0
  go_wp2_with fail
  refine (wnum w _ g m0 (4) (by omega) (by omega) HI.out HB.out (by omega)).mono ?_
  clear d0
  clear hz
  rintro r u1w ⟨rfl, hI, hB, hK⟩
  have hX := (KeepW.block hK HI.out gb HNE.out HX.out (by decide)).trans HX.out
  obtain ⟨m1, hu⟩ : ∃ u, u = m0 ++ encB (4) := ⟨_, rfl⟩
  have z1 : m1.size ≤ 9 := by rw [hu, ByteArray.size_append]; have := bz (4) ⟨by omega, by omega⟩; omega
  replace hI : IsS49 w u1w g m1 := by rw [hu]; exact hI
  have HU1 := Lib.hid hu
  replace HX := Lib.hid hX
  replace HI := Lib.hid hI
  replace HB := Lib.hid hB
  clear hI hB hK hX hu
  have d1 := (blk_cell HX.out 1).trans (show _ = some (.int .u32 bc) from rfl)
  have hz := z1
  go_wp2_with fail
  refine (wnum w _ g m1 (bc) (by omega) (by omega) HI.out HB.out (by omega)).mono ?_
  clear d1
  clear hz
  rintro r u2w ⟨rfl, hI, hB, hK⟩
  have hX := (KeepW.block hK HI.out gb HNE.out HX.out (by decide)).trans HX.out
  obtain ⟨m2, hu⟩ : ∃ u, u = m1 ++ encB (bc) := ⟨_, rfl⟩
  have z2 : m2.size ≤ 18 := by rw [hu, ByteArray.size_append]; have := bz (bc) ⟨by omega, by omega⟩; omega
  replace hI : IsS49 w u2w g m2 := by rw [hu]; exact hI
  have HU2 := Lib.hid hu
  replace HX := Lib.hid hX
  replace HI := Lib.hid hI
  replace HB := Lib.hid hB
  clear hI hB hK hX hu
  have d2 := (blk_cell HX.out 2).trans (show _ = some (.int .u32 bn) from rfl)
  have hz := z2
  go_wp2_with fail
  refine (wnum w _ g m2 (bn) (by omega) (by omega) HI.out HB.out (by omega)).mono ?_
  clear d2
  clear hz
  rintro r u3w ⟨rfl, hI, hB, hK⟩
  have hX := (KeepW.block hK HI.out gb HNE.out HX.out (by decide)).trans HX.out
  obtain ⟨m3, hu⟩ : ∃ u, u = m2 ++ encB (bn) := ⟨_, rfl⟩
  have z3 : m3.size ≤ 27 := by rw [hu, ByteArray.size_append]; have := bz (bn) ⟨by omega, by omega⟩; omega
  replace hI : IsS49 w u3w g m3 := by rw [hu]; exact hI
  have HU3 := Lib.hid hu
  replace HX := Lib.hid hX
  replace HI := Lib.hid hI
  replace HB := Lib.hid hB
  clear hI hB hK hX hu
  have d5 := (blk_cell HX.out 5).trans (show _ = some (.int .u64 ap) from rfl)
  have d6 := (blk_cell HX.out 6).trans (show _ = some (.int .u32 al) from rfl)
  have hz := z3
  go_wp2_with fail
  refine (wstamp w _ g m3 ap al ⟨by omega, by omega⟩ ⟨by omega, by omega⟩ HI.out HB.out (by omega)).mono ?_
  rw [ByteArray.append_assoc]
  clear d5
  clear d6
  clear hz
  rintro r u4w ⟨rfl, hI, hB, hK⟩
  have hX := (KeepW.block hK HI.out gb HNE.out HX.out (by decide)).trans HX.out
  obtain ⟨m4, hu⟩ : ∃ u, u = m3 ++ (encB ap ++ encB al) := ⟨_, rfl⟩
  have z4 : m4.size ≤ 45 := by rw [hu, ByteArray.size_append]; have := bz ap ⟨by omega, by omega⟩; have := bz al ⟨by omega, by omega⟩; rw [ByteArray.size_append]; omega
  replace hI : IsS49 w u4w g m4 := by rw [hu]; exact hI
  have HU4 := Lib.hid hu
  replace HX := Lib.hid hX
  replace HI := Lib.hid hI
  replace HB := Lib.hid hB
  clear hI hB hK hX hu
  have d12 := (blk_cell HX.out 12).trans (show _ = some (.slice A ([] : List S54).length c) from rfl)
  go_wp2_with fail
  clear d12
  go_loop [76] (fun i => i = .int .i64 0) (fun _ => 1)
  case atStart => rfl
  case round =>
  subst hrel
  go_wp2_with fail
  refine (wbytes w _ g _ HI.out HB.out).mono ?_
  rintro r wl ⟨rfl, hI, hB, hK⟩
  replace HB := Lib.hid hB
  clear hI hB hK
  have HE : Hid (m4 = encE ⟨4, bc, bn, sp, sl, ap, al, mp, ml, pr, parts, done, []⟩) := Lib.hid (by
    rw [HU4.out, HU3.out, HU2.out, HU1.out, HU0.out]
    simp [encE, hB, hS, hM, hA, hT, hD, encs, ByteArray.append_assoc])
  go_wp2_with fail
  go_ret2
  exact ⟨by rw [← HE.out]; rfl, HB.out⟩
set_option maxRecDepth 100000 in
set_option maxHeartbeats 16000000 in
theorem write_5 (e : En) (A : Option Addr) (c : Nat) (w : World) (hk : e.k = 5) (hok : EOk e) (hr : rightE e = true) (hC : Kd.C k54 w A e.ws.length e.ws) :
    Calls Try.prog 8 #[.agg #[.int .i64 e.k, .int .u32 e.bc, .int .u32 e.bn, .int .u64 e.sp, .int .u32 e.sl, .int .u64 e.ap, .int .u32 e.al, .int .u64 e.mp, .int .u32 e.ml, .string e.pr, .int .u8 e.parts, .bool e.done, .slice A e.ws.length c]] w fun r w' => r = .returned (.tuple #[.string (encE e), .int .i64 0]) ∧ Below w.heap.size w w' := by
  have HRI := Lib.hid (fun W (hb : Below w.heap.size w W) => (right_calls e A c W (Kd.C_below hC hb) hok.ws).mono fun r w' (h : r = .returned (.bool (rightE e)) ∧ Below W.heap.size W w') => (⟨by rw [h.1, hr], h.2⟩ : r = .returned (.bool true) ∧ Below W.heap.size W w'))
  have HFI := Lib.hid (fun W => fieldsB_calls e.k 3 (by rw [hk]; rfl) W)
  obtain ⟨-, -, ⟨g1, g2⟩, ⟨g3, g4⟩, ⟨g5, g6⟩, -⟩ := right_facts e hr
  have hn0 := right_nows e hr (by rw [hk]; rfl)
  obtain ⟨-, ⟨hb1, hb2⟩, ⟨hb3, hb4⟩, ⟨hb5, hb6⟩, ⟨hb7, hb8⟩, ⟨hb9, hb10⟩, ⟨hb11, hb12⟩, ⟨hb13, hb14⟩, ⟨hb15, hb16⟩, ⟨hb17, hb18⟩, -⟩ := hok
  clear hC hr
  obtain ⟨k, bc, bn, sp, sl, ap, al, mp, ml, pr, parts, done, ws⟩ := e
  dsimp only at *
  subst hk
  subst hn0
  have b1 : bits .and .i64 3 1 = 1 := by kernel_rfl
  have b2 : bits .and .i64 3 2 = 2 := by kernel_rfl
  have b4 : bits .and .i64 3 4 = 0 := by kernel_rfl
  have b8 : bits .and .i64 3 8 = 0 := by kernel_rfl
  have b16 : bits .and .i64 3 16 = 0 := by kernel_rfl
  have b32 : bits .and .i64 3 32 = 0 := by kernel_rfl
  have b96 : bits .and .i64 3 96 = 0 := by kernel_rfl
  have b128 : bits .and .i64 3 128 = 0 := by kernel_rfl
  have b256 : bits .and .i64 3 256 = 0 := by kernel_rfl
  go_enter Try.func8, Try.ntmps8
  go_upto_region 0 with (fail)
  go_step
  (with_reducible refine gate_dst (N := 1) rfl ?_)
  refine box_event ?hg (N := 1) ?hd (cs := #[(.int .i64 5), (.int .u32 bc), (.int .u32 bn), (.int .u64 sp), (.int .u32 sl), (.int .u64 ap), (.int .u32 al), (.int .u64 mp), (.int .u32 ml), (.string pr), (.int .u8 parts), (.bool done), (.slice A ([] : List S54).length c)]) (t := 30) ?hr ?_
  case hd => rfl
  case hg => rfl
  case hr => kernel_rfl
  intro gb hgb w1 hbox hbb
  have HB1 := Lib.hid hbb
  have HX1 := Lib.hid hbox
  clear hgb hbox hbb
  go_wp2_with ((with_reducible refine gate_dst (N := 8) rfl ?_); refine wpList_load_row rfl 30 (.tmp 1) rfl gb rfl 30 _ (0, 0) _ HX1.out Try.underlying30 rfl (by kernel_rfl) ?_)
  refine (HRI.out _ HB1.out).mono ?_
  rintro r w2 ⟨rfl, hb⟩
  have HX2 := Lib.hid ((hb.block _ (lt_at2 HX1.out)).trans HX1.out)
  have HB2 := Lib.hid (HB1.out.trans (hb.mono HB1.out.size))
  clear hb HX1 HB1 HRI
  have x0 : w2.cell? ⟨gb, 0, none⟩ = some (.int .i64 5) := (blk_cell HX2.out 0).trans rfl
  go_wp2_with fail
  refine (HFI.out _).mono ?_
  rintro r w3 ⟨rfl, hb⟩
  have HX3 := Lib.hid ((hb.block _ (lt_at2 HX2.out)).trans HX2.out)
  have HB3 := Lib.hid (HB2.out.trans (hb.mono HB2.out.size))
  clear hb HX2 HB2 HFI x0
  go_upto_region 4 with (fail)
  go_step
  go_step
  go_step
  go_step
  (with_reducible refine gate_dst (N := 15) rfl ?_)
  refine box_event ?hg (N := 15) ?hd (cs := #[.slice none 0 0]) (t := 49) ?hr ?_
  case hd => rfl
  case hg => rfl
  case hr => kernel_rfl
  intro g hgg w4 hbox hbb
  have HI : Hid (IsS49 w w4 g ByteArray.empty) := Lib.hid (made_at hbox (by rw [hgg]; exact HB3.out.size))
  have HX := Lib.hid ((hbb.block _ (lt_at2 HX3.out)).trans HX3.out)
  have HB := Lib.hid (HB3.out.trans (hbb.mono HB3.out.size))
  have HNE : Hid (gb ≠ g) := Lib.hid (by have := lt_at2 HX3.out; omega)
  obtain ⟨m0, hm0⟩ : ∃ m, m = ByteArray.empty := ⟨_, rfl⟩
  have z0 : m0.size ≤ 0 := by rw [hm0]; exact Nat.le_refl _
  rw [← hm0] at HI
  have HU0 := Lib.hid hm0
  clear hgg hbox hbb HX3 HB3 hm0
  have d0 := (blk_cell HX.out 0).trans (show _ = some (.int .i64 5) from rfl)
  have hz := z0
  go_wp2_with fail
  refine (wnum w _ g m0 (5) (by omega) (by omega) HI.out HB.out (by omega)).mono ?_
  clear d0
  clear hz
  rintro r u1w ⟨rfl, hI, hB, hK⟩
  have hX := (KeepW.block hK HI.out gb HNE.out HX.out (by decide)).trans HX.out
  obtain ⟨m1, hu⟩ : ∃ u, u = m0 ++ encB (5) := ⟨_, rfl⟩
  have z1 : m1.size ≤ 9 := by rw [hu, ByteArray.size_append]; have := bz (5) ⟨by omega, by omega⟩; omega
  replace hI : IsS49 w u1w g m1 := by rw [hu]; exact hI
  have HU1 := Lib.hid hu
  replace HX := Lib.hid hX
  replace HI := Lib.hid hI
  replace HB := Lib.hid hB
  clear hI hB hK hX hu
  have d1 := (blk_cell HX.out 1).trans (show _ = some (.int .u32 bc) from rfl)
  have hz := z1
  go_wp2_with fail
  refine (wnum w _ g m1 (bc) (by omega) (by omega) HI.out HB.out (by omega)).mono ?_
  clear d1
  clear hz
  rintro r u2w ⟨rfl, hI, hB, hK⟩
  have hX := (KeepW.block hK HI.out gb HNE.out HX.out (by decide)).trans HX.out
  obtain ⟨m2, hu⟩ : ∃ u, u = m1 ++ encB (bc) := ⟨_, rfl⟩
  have z2 : m2.size ≤ 18 := by rw [hu, ByteArray.size_append]; have := bz (bc) ⟨by omega, by omega⟩; omega
  replace hI : IsS49 w u2w g m2 := by rw [hu]; exact hI
  have HU2 := Lib.hid hu
  replace HX := Lib.hid hX
  replace HI := Lib.hid hI
  replace HB := Lib.hid hB
  clear hI hB hK hX hu
  have d2 := (blk_cell HX.out 2).trans (show _ = some (.int .u32 bn) from rfl)
  have hz := z2
  go_wp2_with fail
  refine (wnum w _ g m2 (bn) (by omega) (by omega) HI.out HB.out (by omega)).mono ?_
  clear d2
  clear hz
  rintro r u3w ⟨rfl, hI, hB, hK⟩
  have hX := (KeepW.block hK HI.out gb HNE.out HX.out (by decide)).trans HX.out
  obtain ⟨m3, hu⟩ : ∃ u, u = m2 ++ encB (bn) := ⟨_, rfl⟩
  have z3 : m3.size ≤ 27 := by rw [hu, ByteArray.size_append]; have := bz (bn) ⟨by omega, by omega⟩; omega
  replace hI : IsS49 w u3w g m3 := by rw [hu]; exact hI
  have HU3 := Lib.hid hu
  replace HX := Lib.hid hX
  replace HI := Lib.hid hI
  replace HB := Lib.hid hB
  clear hI hB hK hX hu
  have d3 := (blk_cell HX.out 3).trans (show _ = some (.int .u64 sp) from rfl)
  have d4 := (blk_cell HX.out 4).trans (show _ = some (.int .u32 sl) from rfl)
  have hz := z3
  go_wp2_with fail
  refine (wstamp w _ g m3 sp sl ⟨by omega, by omega⟩ ⟨by omega, by omega⟩ HI.out HB.out (by omega)).mono ?_
  rw [ByteArray.append_assoc]
  clear d3
  clear d4
  clear hz
  rintro r u4w ⟨rfl, hI, hB, hK⟩
  have hX := (KeepW.block hK HI.out gb HNE.out HX.out (by decide)).trans HX.out
  obtain ⟨m4, hu⟩ : ∃ u, u = m3 ++ (encB sp ++ encB sl) := ⟨_, rfl⟩
  have z4 : m4.size ≤ 45 := by rw [hu, ByteArray.size_append]; have := bz sp ⟨by omega, by omega⟩; have := bz sl ⟨by omega, by omega⟩; rw [ByteArray.size_append]; omega
  replace hI : IsS49 w u4w g m4 := by rw [hu]; exact hI
  have HU4 := Lib.hid hu
  replace HX := Lib.hid hX
  replace HI := Lib.hid hI
  replace HB := Lib.hid hB
  clear hI hB hK hX hu
  have d12 := (blk_cell HX.out 12).trans (show _ = some (.slice A ([] : List S54).length c) from rfl)
  go_wp2_with fail
  clear d12
  go_loop [76] (fun i => i = .int .i64 0) (fun _ => 1)
  case atStart => rfl
  case round =>
  subst hrel
  go_wp2_with fail
  refine (wbytes w _ g _ HI.out HB.out).mono ?_
  rintro r wl ⟨rfl, hI, hB, hK⟩
  replace HB := Lib.hid hB
  clear hI hB hK
  have HE : Hid (m4 = encE ⟨5, bc, bn, sp, sl, ap, al, mp, ml, pr, parts, done, []⟩) := Lib.hid (by
    rw [HU4.out, HU3.out, HU2.out, HU1.out, HU0.out]
    simp [encE, hB, hS, hM, hA, hT, hD, encs, ByteArray.append_assoc])
  go_wp2_with fail
  go_ret2
  exact ⟨by rw [← HE.out]; rfl, HB.out⟩
set_option maxRecDepth 100000 in
set_option maxHeartbeats 16000000 in
theorem write_6 (e : En) (A : Option Addr) (c : Nat) (w : World) (hk : e.k = 6) (hok : EOk e) (hr : rightE e = true) (hC : Kd.C k54 w A e.ws.length e.ws) :
    Calls Try.prog 8 #[.agg #[.int .i64 e.k, .int .u32 e.bc, .int .u32 e.bn, .int .u64 e.sp, .int .u32 e.sl, .int .u64 e.ap, .int .u32 e.al, .int .u64 e.mp, .int .u32 e.ml, .string e.pr, .int .u8 e.parts, .bool e.done, .slice A e.ws.length c]] w fun r w' => r = .returned (.tuple #[.string (encE e), .int .i64 0]) ∧ Below w.heap.size w w' := by
  have HRI := Lib.hid (fun W (hb : Below w.heap.size w W) => (right_calls e A c W (Kd.C_below hC hb) hok.ws).mono fun r w' (h : r = .returned (.bool (rightE e)) ∧ Below W.heap.size W w') => (⟨by rw [h.1, hr], h.2⟩ : r = .returned (.bool true) ∧ Below W.heap.size W w'))
  have HFI := Lib.hid (fun W => fieldsB_calls e.k 8 (by rw [hk]; rfl) W)
  obtain ⟨-, -, ⟨g1, g2⟩, ⟨g3, g4⟩, ⟨g5, g6⟩, -⟩ := right_facts e hr
  have hn0 := right_nows e hr (by rw [hk]; rfl)
  obtain ⟨-, ⟨hb1, hb2⟩, ⟨hb3, hb4⟩, ⟨hb5, hb6⟩, ⟨hb7, hb8⟩, ⟨hb9, hb10⟩, ⟨hb11, hb12⟩, ⟨hb13, hb14⟩, ⟨hb15, hb16⟩, ⟨hb17, hb18⟩, -⟩ := hok
  clear hC hr
  obtain ⟨k, bc, bn, sp, sl, ap, al, mp, ml, pr, parts, done, ws⟩ := e
  dsimp only at *
  subst hk
  subst hn0
  have b1 : bits .and .i64 8 1 = 0 := by kernel_rfl
  have b2 : bits .and .i64 8 2 = 0 := by kernel_rfl
  have b4 : bits .and .i64 8 4 = 0 := by kernel_rfl
  have b8 : bits .and .i64 8 8 = 8 := by kernel_rfl
  have b16 : bits .and .i64 8 16 = 0 := by kernel_rfl
  have b32 : bits .and .i64 8 32 = 0 := by kernel_rfl
  have b96 : bits .and .i64 8 96 = 0 := by kernel_rfl
  have b128 : bits .and .i64 8 128 = 0 := by kernel_rfl
  have b256 : bits .and .i64 8 256 = 0 := by kernel_rfl
  go_enter Try.func8, Try.ntmps8
  go_upto_region 0 with (fail)
  go_step
  (with_reducible refine gate_dst (N := 1) rfl ?_)
  refine box_event ?hg (N := 1) ?hd (cs := #[(.int .i64 6), (.int .u32 bc), (.int .u32 bn), (.int .u64 sp), (.int .u32 sl), (.int .u64 ap), (.int .u32 al), (.int .u64 mp), (.int .u32 ml), (.string pr), (.int .u8 parts), (.bool done), (.slice A ([] : List S54).length c)]) (t := 30) ?hr ?_
  case hd => rfl
  case hg => rfl
  case hr => kernel_rfl
  intro gb hgb w1 hbox hbb
  have HB1 := Lib.hid hbb
  have HX1 := Lib.hid hbox
  clear hgb hbox hbb
  go_wp2_with ((with_reducible refine gate_dst (N := 8) rfl ?_); refine wpList_load_row rfl 30 (.tmp 1) rfl gb rfl 30 _ (0, 0) _ HX1.out Try.underlying30 rfl (by kernel_rfl) ?_)
  refine (HRI.out _ HB1.out).mono ?_
  rintro r w2 ⟨rfl, hb⟩
  have HX2 := Lib.hid ((hb.block _ (lt_at2 HX1.out)).trans HX1.out)
  have HB2 := Lib.hid (HB1.out.trans (hb.mono HB1.out.size))
  clear hb HX1 HB1 HRI
  have x0 : w2.cell? ⟨gb, 0, none⟩ = some (.int .i64 6) := (blk_cell HX2.out 0).trans rfl
  go_wp2_with fail
  refine (HFI.out _).mono ?_
  rintro r w3 ⟨rfl, hb⟩
  have HX3 := Lib.hid ((hb.block _ (lt_at2 HX2.out)).trans HX2.out)
  have HB3 := Lib.hid (HB2.out.trans (hb.mono HB2.out.size))
  clear hb HX2 HB2 HFI x0
  go_upto_region 4 with (fail)
  go_step
  go_step
  go_step
  go_step
  (with_reducible refine gate_dst (N := 15) rfl ?_)
  refine box_event ?hg (N := 15) ?hd (cs := #[.slice none 0 0]) (t := 49) ?hr ?_
  case hd => rfl
  case hg => rfl
  case hr => kernel_rfl
  intro g hgg w4 hbox hbb
  have HI : Hid (IsS49 w w4 g ByteArray.empty) := Lib.hid (made_at hbox (by rw [hgg]; exact HB3.out.size))
  have HX := Lib.hid ((hbb.block _ (lt_at2 HX3.out)).trans HX3.out)
  have HB := Lib.hid (HB3.out.trans (hbb.mono HB3.out.size))
  have HNE : Hid (gb ≠ g) := Lib.hid (by have := lt_at2 HX3.out; omega)
  obtain ⟨m0, hm0⟩ : ∃ m, m = ByteArray.empty := ⟨_, rfl⟩
  have z0 : m0.size ≤ 0 := by rw [hm0]; exact Nat.le_refl _
  rw [← hm0] at HI
  have HU0 := Lib.hid hm0
  clear hgg hbox hbb HX3 HB3 hm0
  have d0 := (blk_cell HX.out 0).trans (show _ = some (.int .i64 6) from rfl)
  have hz := z0
  go_wp2_with fail
  refine (wnum w _ g m0 (6) (by omega) (by omega) HI.out HB.out (by omega)).mono ?_
  clear d0
  clear hz
  rintro r u1w ⟨rfl, hI, hB, hK⟩
  have hX := (KeepW.block hK HI.out gb HNE.out HX.out (by decide)).trans HX.out
  obtain ⟨m1, hu⟩ : ∃ u, u = m0 ++ encB (6) := ⟨_, rfl⟩
  have z1 : m1.size ≤ 9 := by rw [hu, ByteArray.size_append]; have := bz (6) ⟨by omega, by omega⟩; omega
  replace hI : IsS49 w u1w g m1 := by rw [hu]; exact hI
  have HU1 := Lib.hid hu
  replace HX := Lib.hid hX
  replace HI := Lib.hid hI
  replace HB := Lib.hid hB
  clear hI hB hK hX hu
  have d5 := (blk_cell HX.out 5).trans (show _ = some (.int .u64 ap) from rfl)
  have d6 := (blk_cell HX.out 6).trans (show _ = some (.int .u32 al) from rfl)
  have hz := z1
  go_wp2_with fail
  refine (wstamp w _ g m1 ap al ⟨by omega, by omega⟩ ⟨by omega, by omega⟩ HI.out HB.out (by omega)).mono ?_
  rw [ByteArray.append_assoc]
  clear d5
  clear d6
  clear hz
  rintro r u2w ⟨rfl, hI, hB, hK⟩
  have hX := (KeepW.block hK HI.out gb HNE.out HX.out (by decide)).trans HX.out
  obtain ⟨m2, hu⟩ : ∃ u, u = m1 ++ (encB ap ++ encB al) := ⟨_, rfl⟩
  have z2 : m2.size ≤ 27 := by rw [hu, ByteArray.size_append]; have := bz ap ⟨by omega, by omega⟩; have := bz al ⟨by omega, by omega⟩; rw [ByteArray.size_append]; omega
  replace hI : IsS49 w u2w g m2 := by rw [hu]; exact hI
  have HU2 := Lib.hid hu
  replace HX := Lib.hid hX
  replace HI := Lib.hid hI
  replace HB := Lib.hid hB
  clear hI hB hK hX hu
  have d12 := (blk_cell HX.out 12).trans (show _ = some (.slice A ([] : List S54).length c) from rfl)
  go_wp2_with fail
  clear d12
  go_loop [76] (fun i => i = .int .i64 0) (fun _ => 1)
  case atStart => rfl
  case round =>
  subst hrel
  go_wp2_with fail
  refine (wbytes w _ g _ HI.out HB.out).mono ?_
  rintro r wl ⟨rfl, hI, hB, hK⟩
  replace HB := Lib.hid hB
  clear hI hB hK
  have HE : Hid (m2 = encE ⟨6, bc, bn, sp, sl, ap, al, mp, ml, pr, parts, done, []⟩) := Lib.hid (by
    rw [HU2.out, HU1.out, HU0.out]
    simp [encE, hB, hS, hM, hA, hT, hD, encs, ByteArray.append_assoc])
  go_wp2_with fail
  go_ret2
  exact ⟨by rw [← HE.out]; rfl, HB.out⟩
set_option maxRecDepth 100000 in
set_option maxHeartbeats 16000000 in
theorem write_7 (e : En) (A : Option Addr) (c : Nat) (w : World) (hk : e.k = 7) (hok : EOk e) (hr : rightE e = true) (hC : Kd.C k54 w A e.ws.length e.ws) :
    Calls Try.prog 8 #[.agg #[.int .i64 e.k, .int .u32 e.bc, .int .u32 e.bn, .int .u64 e.sp, .int .u32 e.sl, .int .u64 e.ap, .int .u32 e.al, .int .u64 e.mp, .int .u32 e.ml, .string e.pr, .int .u8 e.parts, .bool e.done, .slice A e.ws.length c]] w fun r w' => r = .returned (.tuple #[.string (encE e), .int .i64 0]) ∧ Below w.heap.size w w' := by
  have HRI := Lib.hid (fun W (hb : Below w.heap.size w W) => (right_calls e A c W (Kd.C_below hC hb) hok.ws).mono fun r w' (h : r = .returned (.bool (rightE e)) ∧ Below W.heap.size W w') => (⟨by rw [h.1, hr], h.2⟩ : r = .returned (.bool true) ∧ Below W.heap.size W w'))
  have HFI := Lib.hid (fun W => fieldsB_calls e.k 1 (by rw [hk]; rfl) W)
  obtain ⟨-, -, ⟨g1, g2⟩, ⟨g3, g4⟩, ⟨g5, g6⟩, -⟩ := right_facts e hr
  have hn0 := right_nows e hr (by rw [hk]; rfl)
  obtain ⟨-, ⟨hb1, hb2⟩, ⟨hb3, hb4⟩, ⟨hb5, hb6⟩, ⟨hb7, hb8⟩, ⟨hb9, hb10⟩, ⟨hb11, hb12⟩, ⟨hb13, hb14⟩, ⟨hb15, hb16⟩, ⟨hb17, hb18⟩, -⟩ := hok
  clear hC hr
  obtain ⟨k, bc, bn, sp, sl, ap, al, mp, ml, pr, parts, done, ws⟩ := e
  dsimp only at *
  subst hk
  subst hn0
  have b1 : bits .and .i64 1 1 = 1 := by kernel_rfl
  have b2 : bits .and .i64 1 2 = 0 := by kernel_rfl
  have b4 : bits .and .i64 1 4 = 0 := by kernel_rfl
  have b8 : bits .and .i64 1 8 = 0 := by kernel_rfl
  have b16 : bits .and .i64 1 16 = 0 := by kernel_rfl
  have b32 : bits .and .i64 1 32 = 0 := by kernel_rfl
  have b96 : bits .and .i64 1 96 = 0 := by kernel_rfl
  have b128 : bits .and .i64 1 128 = 0 := by kernel_rfl
  have b256 : bits .and .i64 1 256 = 0 := by kernel_rfl
  go_enter Try.func8, Try.ntmps8
  go_upto_region 0 with (fail)
  go_step
  (with_reducible refine gate_dst (N := 1) rfl ?_)
  refine box_event ?hg (N := 1) ?hd (cs := #[(.int .i64 7), (.int .u32 bc), (.int .u32 bn), (.int .u64 sp), (.int .u32 sl), (.int .u64 ap), (.int .u32 al), (.int .u64 mp), (.int .u32 ml), (.string pr), (.int .u8 parts), (.bool done), (.slice A ([] : List S54).length c)]) (t := 30) ?hr ?_
  case hd => rfl
  case hg => rfl
  case hr => kernel_rfl
  intro gb hgb w1 hbox hbb
  have HB1 := Lib.hid hbb
  have HX1 := Lib.hid hbox
  clear hgb hbox hbb
  go_wp2_with ((with_reducible refine gate_dst (N := 8) rfl ?_); refine wpList_load_row rfl 30 (.tmp 1) rfl gb rfl 30 _ (0, 0) _ HX1.out Try.underlying30 rfl (by kernel_rfl) ?_)
  refine (HRI.out _ HB1.out).mono ?_
  rintro r w2 ⟨rfl, hb⟩
  have HX2 := Lib.hid ((hb.block _ (lt_at2 HX1.out)).trans HX1.out)
  have HB2 := Lib.hid (HB1.out.trans (hb.mono HB1.out.size))
  clear hb HX1 HB1 HRI
  have x0 : w2.cell? ⟨gb, 0, none⟩ = some (.int .i64 7) := (blk_cell HX2.out 0).trans rfl
  go_wp2_with fail
  refine (HFI.out _).mono ?_
  rintro r w3 ⟨rfl, hb⟩
  have HX3 := Lib.hid ((hb.block _ (lt_at2 HX2.out)).trans HX2.out)
  have HB3 := Lib.hid (HB2.out.trans (hb.mono HB2.out.size))
  clear hb HX2 HB2 HFI x0
  go_upto_region 4 with (fail)
  go_step
  go_step
  go_step
  go_step
  (with_reducible refine gate_dst (N := 15) rfl ?_)
  refine box_event ?hg (N := 15) ?hd (cs := #[.slice none 0 0]) (t := 49) ?hr ?_
  case hd => rfl
  case hg => rfl
  case hr => kernel_rfl
  intro g hgg w4 hbox hbb
  have HI : Hid (IsS49 w w4 g ByteArray.empty) := Lib.hid (made_at hbox (by rw [hgg]; exact HB3.out.size))
  have HX := Lib.hid ((hbb.block _ (lt_at2 HX3.out)).trans HX3.out)
  have HB := Lib.hid (HB3.out.trans (hbb.mono HB3.out.size))
  have HNE : Hid (gb ≠ g) := Lib.hid (by have := lt_at2 HX3.out; omega)
  obtain ⟨m0, hm0⟩ : ∃ m, m = ByteArray.empty := ⟨_, rfl⟩
  have z0 : m0.size ≤ 0 := by rw [hm0]; exact Nat.le_refl _
  rw [← hm0] at HI
  have HU0 := Lib.hid hm0
  clear hgg hbox hbb HX3 HB3 hm0
  have d0 := (blk_cell HX.out 0).trans (show _ = some (.int .i64 7) from rfl)
  have hz := z0
  go_wp2_with fail
  refine (wnum w _ g m0 (7) (by omega) (by omega) HI.out HB.out (by omega)).mono ?_
  clear d0
  clear hz
  rintro r u1w ⟨rfl, hI, hB, hK⟩
  have hX := (KeepW.block hK HI.out gb HNE.out HX.out (by decide)).trans HX.out
  obtain ⟨m1, hu⟩ : ∃ u, u = m0 ++ encB (7) := ⟨_, rfl⟩
  have z1 : m1.size ≤ 9 := by rw [hu, ByteArray.size_append]; have := bz (7) ⟨by omega, by omega⟩; omega
  replace hI : IsS49 w u1w g m1 := by rw [hu]; exact hI
  have HU1 := Lib.hid hu
  replace HX := Lib.hid hX
  replace HI := Lib.hid hI
  replace HB := Lib.hid hB
  clear hI hB hK hX hu
  have d1 := (blk_cell HX.out 1).trans (show _ = some (.int .u32 bc) from rfl)
  have hz := z1
  go_wp2_with fail
  refine (wnum w _ g m1 (bc) (by omega) (by omega) HI.out HB.out (by omega)).mono ?_
  clear d1
  clear hz
  rintro r u2w ⟨rfl, hI, hB, hK⟩
  have hX := (KeepW.block hK HI.out gb HNE.out HX.out (by decide)).trans HX.out
  obtain ⟨m2, hu⟩ : ∃ u, u = m1 ++ encB (bc) := ⟨_, rfl⟩
  have z2 : m2.size ≤ 18 := by rw [hu, ByteArray.size_append]; have := bz (bc) ⟨by omega, by omega⟩; omega
  replace hI : IsS49 w u2w g m2 := by rw [hu]; exact hI
  have HU2 := Lib.hid hu
  replace HX := Lib.hid hX
  replace HI := Lib.hid hI
  replace HB := Lib.hid hB
  clear hI hB hK hX hu
  have d2 := (blk_cell HX.out 2).trans (show _ = some (.int .u32 bn) from rfl)
  have hz := z2
  go_wp2_with fail
  refine (wnum w _ g m2 (bn) (by omega) (by omega) HI.out HB.out (by omega)).mono ?_
  clear d2
  clear hz
  rintro r u3w ⟨rfl, hI, hB, hK⟩
  have hX := (KeepW.block hK HI.out gb HNE.out HX.out (by decide)).trans HX.out
  obtain ⟨m3, hu⟩ : ∃ u, u = m2 ++ encB (bn) := ⟨_, rfl⟩
  have z3 : m3.size ≤ 27 := by rw [hu, ByteArray.size_append]; have := bz (bn) ⟨by omega, by omega⟩; omega
  replace hI : IsS49 w u3w g m3 := by rw [hu]; exact hI
  have HU3 := Lib.hid hu
  replace HX := Lib.hid hX
  replace HI := Lib.hid hI
  replace HB := Lib.hid hB
  clear hI hB hK hX hu
  have d12 := (blk_cell HX.out 12).trans (show _ = some (.slice A ([] : List S54).length c) from rfl)
  go_wp2_with fail
  clear d12
  go_loop [76] (fun i => i = .int .i64 0) (fun _ => 1)
  case atStart => rfl
  case round =>
  subst hrel
  go_wp2_with fail
  refine (wbytes w _ g _ HI.out HB.out).mono ?_
  rintro r wl ⟨rfl, hI, hB, hK⟩
  replace HB := Lib.hid hB
  clear hI hB hK
  have HE : Hid (m3 = encE ⟨7, bc, bn, sp, sl, ap, al, mp, ml, pr, parts, done, []⟩) := Lib.hid (by
    rw [HU3.out, HU2.out, HU1.out, HU0.out]
    simp [encE, hB, hS, hM, hA, hT, hD, encs, ByteArray.append_assoc])
  go_wp2_with fail
  go_ret2
  exact ⟨by rw [← HE.out]; rfl, HB.out⟩
set_option maxRecDepth 100000 in
set_option maxHeartbeats 16000000 in
theorem write_8 (e : En) (A : Option Addr) (c : Nat) (w : World) (hk : e.k = 8) (hok : EOk e) (hr : rightE e = true) (hC : Kd.C k54 w A e.ws.length e.ws) :
    Calls Try.prog 8 #[.agg #[.int .i64 e.k, .int .u32 e.bc, .int .u32 e.bn, .int .u64 e.sp, .int .u32 e.sl, .int .u64 e.ap, .int .u32 e.al, .int .u64 e.mp, .int .u32 e.ml, .string e.pr, .int .u8 e.parts, .bool e.done, .slice A e.ws.length c]] w fun r w' => r = .returned (.tuple #[.string (encE e), .int .i64 0]) ∧ Below w.heap.size w w' := by
  have HRI := Lib.hid (fun W (hb : Below w.heap.size w W) => (right_calls e A c W (Kd.C_below hC hb) hok.ws).mono fun r w' (h : r = .returned (.bool (rightE e)) ∧ Below W.heap.size W w') => (⟨by rw [h.1, hr], h.2⟩ : r = .returned (.bool true) ∧ Below W.heap.size W w'))
  have HFI := Lib.hid (fun W => fieldsB_calls e.k 73 (by rw [hk]; rfl) W)
  obtain ⟨-, -, ⟨g1, g2⟩, ⟨g3, g4⟩, ⟨g5, g6⟩, -⟩ := right_facts e hr
  obtain ⟨hws, hall⟩ := right_ws e hr
  have HwsE : Hid (∀ x ∈ e.ws, x.f0.size ≤ 32 ∧ x.f1.size ≤ 256) := Lib.hid (fun x hx => ⟨(hall x hx).1.2, (hall x hx).2⟩)
  have Hws : Hid (∀ x ∈ e.ws, (encW x).size ≤ 400) := Lib.hid (fun x hx => encW_size x (HwsE.out x hx))
  clear hall
  have HCws := Lib.hid hC
  obtain ⟨-, ⟨hb1, hb2⟩, ⟨hb3, hb4⟩, ⟨hb5, hb6⟩, ⟨hb7, hb8⟩, ⟨hb9, hb10⟩, ⟨hb11, hb12⟩, ⟨hb13, hb14⟩, ⟨hb15, hb16⟩, ⟨hb17, hb18⟩, -⟩ := hok
  clear hC hr
  obtain ⟨k, bc, bn, sp, sl, ap, al, mp, ml, pr, parts, done, ws⟩ := e
  dsimp only at *
  subst hk
  have b1 : bits .and .i64 73 1 = 1 := by kernel_rfl
  have b2 : bits .and .i64 73 2 = 0 := by kernel_rfl
  have b4 : bits .and .i64 73 4 = 0 := by kernel_rfl
  have b8 : bits .and .i64 73 8 = 8 := by kernel_rfl
  have b16 : bits .and .i64 73 16 = 0 := by kernel_rfl
  have b32 : bits .and .i64 73 32 = 0 := by kernel_rfl
  have b96 : bits .and .i64 73 96 = 64 := by kernel_rfl
  have b128 : bits .and .i64 73 128 = 0 := by kernel_rfl
  have b256 : bits .and .i64 73 256 = 0 := by kernel_rfl
  go_enter Try.func8, Try.ntmps8
  go_upto_region 0 with (fail)
  go_step
  (with_reducible refine gate_dst (N := 1) rfl ?_)
  refine box_event ?hg (N := 1) ?hd (cs := #[(.int .i64 8), (.int .u32 bc), (.int .u32 bn), (.int .u64 sp), (.int .u32 sl), (.int .u64 ap), (.int .u32 al), (.int .u64 mp), (.int .u32 ml), (.string pr), (.int .u8 parts), (.bool done), (.slice A ws.length c)]) (t := 30) ?hr ?_
  case hd => rfl
  case hg => rfl
  case hr => kernel_rfl
  intro gb hgb w1 hbox hbb
  have HB1 := Lib.hid hbb
  have HX1 := Lib.hid hbox
  clear hgb hbox hbb
  go_wp2_with ((with_reducible refine gate_dst (N := 8) rfl ?_); refine wpList_load_row rfl 30 (.tmp 1) rfl gb rfl 30 _ (0, 0) _ HX1.out Try.underlying30 rfl (by kernel_rfl) ?_)
  refine (HRI.out _ HB1.out).mono ?_
  rintro r w2 ⟨rfl, hb⟩
  have HX2 := Lib.hid ((hb.block _ (lt_at2 HX1.out)).trans HX1.out)
  have HB2 := Lib.hid (HB1.out.trans (hb.mono HB1.out.size))
  clear hb HX1 HB1 HRI
  have x0 : w2.cell? ⟨gb, 0, none⟩ = some (.int .i64 8) := (blk_cell HX2.out 0).trans rfl
  go_wp2_with fail
  refine (HFI.out _).mono ?_
  rintro r w3 ⟨rfl, hb⟩
  have HX3 := Lib.hid ((hb.block _ (lt_at2 HX2.out)).trans HX2.out)
  have HB3 := Lib.hid (HB2.out.trans (hb.mono HB2.out.size))
  clear hb HX2 HB2 HFI x0
  go_upto_region 4 with (fail)
  go_step
  go_step
  go_step
  go_step
  (with_reducible refine gate_dst (N := 15) rfl ?_)
  refine box_event ?hg (N := 15) ?hd (cs := #[.slice none 0 0]) (t := 49) ?hr ?_
  case hd => rfl
  case hg => rfl
  case hr => kernel_rfl
  intro g hgg w4 hbox hbb
  have HI : Hid (IsS49 w w4 g ByteArray.empty) := Lib.hid (made_at hbox (by rw [hgg]; exact HB3.out.size))
  have HX := Lib.hid ((hbb.block _ (lt_at2 HX3.out)).trans HX3.out)
  have HB := Lib.hid (HB3.out.trans (hbb.mono HB3.out.size))
  have HNE : Hid (gb ≠ g) := Lib.hid (by have := lt_at2 HX3.out; omega)
  obtain ⟨m0, hm0⟩ : ∃ m, m = ByteArray.empty := ⟨_, rfl⟩
  have z0 : m0.size ≤ 0 := by rw [hm0]; exact Nat.le_refl _
  rw [← hm0] at HI
  have HU0 := Lib.hid hm0
  clear hgg hbox hbb HX3 HB3 hm0
  have d0 := (blk_cell HX.out 0).trans (show _ = some (.int .i64 8) from rfl)
  have hz := z0
  go_wp2_with fail
  refine (wnum w _ g m0 (8) (by omega) (by omega) HI.out HB.out (by omega)).mono ?_
  clear d0
  clear hz
  rintro r u1w ⟨rfl, hI, hB, hK⟩
  have hX := (KeepW.block hK HI.out gb HNE.out HX.out (by decide)).trans HX.out
  obtain ⟨m1, hu⟩ : ∃ u, u = m0 ++ encB (8) := ⟨_, rfl⟩
  have z1 : m1.size ≤ 9 := by rw [hu, ByteArray.size_append]; have := bz (8) ⟨by omega, by omega⟩; omega
  replace hI : IsS49 w u1w g m1 := by rw [hu]; exact hI
  have HU1 := Lib.hid hu
  replace HX := Lib.hid hX
  replace HI := Lib.hid hI
  replace HB := Lib.hid hB
  clear hI hB hK hX hu
  have d1 := (blk_cell HX.out 1).trans (show _ = some (.int .u32 bc) from rfl)
  have hz := z1
  go_wp2_with fail
  refine (wnum w _ g m1 (bc) (by omega) (by omega) HI.out HB.out (by omega)).mono ?_
  clear d1
  clear hz
  rintro r u2w ⟨rfl, hI, hB, hK⟩
  have hX := (KeepW.block hK HI.out gb HNE.out HX.out (by decide)).trans HX.out
  obtain ⟨m2, hu⟩ : ∃ u, u = m1 ++ encB (bc) := ⟨_, rfl⟩
  have z2 : m2.size ≤ 18 := by rw [hu, ByteArray.size_append]; have := bz (bc) ⟨by omega, by omega⟩; omega
  replace hI : IsS49 w u2w g m2 := by rw [hu]; exact hI
  have HU2 := Lib.hid hu
  replace HX := Lib.hid hX
  replace HI := Lib.hid hI
  replace HB := Lib.hid hB
  clear hI hB hK hX hu
  have d2 := (blk_cell HX.out 2).trans (show _ = some (.int .u32 bn) from rfl)
  have hz := z2
  go_wp2_with fail
  refine (wnum w _ g m2 (bn) (by omega) (by omega) HI.out HB.out (by omega)).mono ?_
  clear d2
  clear hz
  rintro r u3w ⟨rfl, hI, hB, hK⟩
  have hX := (KeepW.block hK HI.out gb HNE.out HX.out (by decide)).trans HX.out
  obtain ⟨m3, hu⟩ : ∃ u, u = m2 ++ encB (bn) := ⟨_, rfl⟩
  have z3 : m3.size ≤ 27 := by rw [hu, ByteArray.size_append]; have := bz (bn) ⟨by omega, by omega⟩; omega
  replace hI : IsS49 w u3w g m3 := by rw [hu]; exact hI
  have HU3 := Lib.hid hu
  replace HX := Lib.hid hX
  replace HI := Lib.hid hI
  replace HB := Lib.hid hB
  clear hI hB hK hX hu
  have d5 := (blk_cell HX.out 5).trans (show _ = some (.int .u64 ap) from rfl)
  have d6 := (blk_cell HX.out 6).trans (show _ = some (.int .u32 al) from rfl)
  have hz := z3
  go_wp2_with fail
  refine (wstamp w _ g m3 ap al ⟨by omega, by omega⟩ ⟨by omega, by omega⟩ HI.out HB.out (by omega)).mono ?_
  rw [ByteArray.append_assoc]
  clear d5
  clear d6
  clear hz
  rintro r u4w ⟨rfl, hI, hB, hK⟩
  have hX := (KeepW.block hK HI.out gb HNE.out HX.out (by decide)).trans HX.out
  obtain ⟨m4, hu⟩ : ∃ u, u = m3 ++ (encB ap ++ encB al) := ⟨_, rfl⟩
  have z4 : m4.size ≤ 45 := by rw [hu, ByteArray.size_append]; have := bz ap ⟨by omega, by omega⟩; have := bz al ⟨by omega, by omega⟩; rw [ByteArray.size_append]; omega
  replace hI : IsS49 w u4w g m4 := by rw [hu]; exact hI
  have HU4 := Lib.hid hu
  replace HX := Lib.hid hX
  replace HI := Lib.hid hI
  replace HB := Lib.hid hB
  clear hI hB hK hX hu
  have d12 := (blk_cell HX.out 12).trans (show _ = some (.slice A ws.length c) from rfl)
  have hz := z4
  go_wp2_with fail
  clear d12
  go_loopg [76] (ws.length + 1) (fun gk v76 wr => ∃ i : Nat, i ≤ ws.length ∧ v76 = .int .i64 (i : Int) ∧ Aside0 (i + gk = ws.length + 1) ∧ Aside0 (IsS49 w wr g (m4 ++ encs encW (ws.take i)) ∧ Below w.heap.size w wr ∧ wr.heap[gb]? = some (.cells #[(.int .i64 8), (.int .u32 bc), (.int .u32 bn), (.int .u64 sp), (.int .u32 sl), (.int .u64 ap), (.int .u32 al), (.int .u64 mp), (.int .u32 ml), (.string pr), (.int .u8 parts), (.bool done), (.slice A ws.length c)] 30 (0, 0))))
  case atStart => exact ⟨0, Nat.zero_le _, rfl, ⟨by omega⟩, ⟨by rw [List.take_zero, encs, ByteArray.append_empty]; exact HI.out, HB.out, HX.out⟩⟩
  case round =>
  obtain ⟨i, hi, rfl, ⟨hg⟩, ⟨hI, hB, hX⟩⟩ := hrel
  have HG := Lib.hid hg
  replace HI := Lib.hid hI
  replace HB := Lib.hid hB
  replace HX := Lib.hid hX
  clear hg hI hB hX
  rcases (show i < ws.length ∨ i = ws.length by omega) with hlt | rfl
  · have hsz := encs_size encW 400 (ws.take i) (fun x hx => Hws.out x (List.mem_of_mem_take hx))
    have hel := HwsE.out (ws[i]) (List.getElem_mem hlt)
    obtain ⟨U, hU⟩ : ∃ U, U = m4 ++ encs encW (ws.take i) := ⟨_, rfl⟩
    have hUz : U.size ≤ 6445 := by
      rw [hU, ByteArray.size_append]
      have h1 : (ws.take i).length ≤ 16 := by rw [List.length_take]; omega
      have h2 : (ws.take i).length * 400 ≤ 16 * 400 := Nat.mul_le_mul_right _ h1
      omega
    rw [← hU] at HI
    have HU := Lib.hid hU
    obtain ⟨ad, rfl, k0, k1, k2⟩ := at_T54 (Kd.C_below HCws.out HB.out) (i : Int) (by omega) (by omega)
    rw [Int.toNat_natCast] at k0 k1 k2
    have HE := Lib.hid (rd_at ws i hlt)
    rw [← HE.out] at hel
    generalize rd_T54 ws (i : Int) = x at *
    obtain ⟨x0, x1, x2⟩ := x
    dsimp only at *
    have HNX : Hid (wr.heap.size ≠ g) := Lib.hid (by have := HI.out.lt; omega)
    have HY := Lib.hid (heap_alloc_new wr (.cells #[.string x0, .string x1, .bool x2] 54))
    have HX2 := Lib.hid (((below_alloc (Below.refl wr.heap.size wr) (.cells #[.string x0, .string x1, .bool x2] 54)).block _ (lt_at2 HX.out)).trans HX.out)
    have HI2 := Lib.hid (HI.out.alloc (.cells #[.string x0, .string x1, .bool x2] 54))
    have HB2 := Lib.hid (below_alloc' HB.out (.cells #[.string x0, .string x1, .bool x2] 54))
    clear hU hsz HI HB HX
    go_wp2_with fail
    refine (wtext w _ g U x0 HI2.out HB2.out (by omega)).mono ?_
    rw [ByteArray.append_assoc]
    rintro r y0 ⟨rfl, hI, hB, hK⟩
    have hX := (KeepW.block hK HI2.out gb HNE.out HX2.out (by decide)).trans HX2.out
    have hY := (KeepW.block hK HI2.out wr.heap.size HNX.out HY.out (by decide)).trans HY.out
    obtain ⟨v0, hu⟩ : ∃ u, u = U ++ txE x0 := ⟨_, rfl⟩
    have q0 : v0.size ≤ U.size + 265 := by rw [hu, ByteArray.size_append]; have := tz x0 256 (by omega) (by omega); omega
    replace hI : IsS49 w y0 g v0 := by rw [hu]; exact hI
    have HV0 := Lib.hid hu
    replace HX2 := Lib.hid hX
    replace HY := Lib.hid hY
    replace HI2 := Lib.hid hI
    replace HB2 := Lib.hid hB
    clear hI hB hK hX hY hu
    have e2 := (blk_cell HY.out 2).trans (show _ = some (.bool x2) from rfl)
    go_wp2_with fail
    refine (wflag w _ g v0 x2 HI2.out HB2.out (by omega)).mono ?_
    rintro r y1 ⟨rfl, hI, hB, hK⟩
    have hX := (KeepW.block hK HI2.out gb HNE.out HX2.out (by decide)).trans HX2.out
    have hY := (KeepW.block hK HI2.out wr.heap.size HNX.out HY.out (by decide)).trans HY.out
    obtain ⟨v1, hu⟩ : ∃ u, u = v0 ++ encF x2 := ⟨_, rfl⟩
    have q1 : v1.size ≤ v0.size + 1 := by rw [hu, ByteArray.size_append]; have := encF_size x2; omega
    replace hI : IsS49 w y1 g v1 := by rw [hu]; exact hI
    have HV1 := Lib.hid hu
    replace HX2 := Lib.hid hX
    replace HY := Lib.hid hY
    replace HI2 := Lib.hid hI
    replace HB2 := Lib.hid hB
    clear hI hB hK hX hY hu
    clear e2
    have e1 := (blk_cell HY.out 1).trans (show _ = some (.string x1) from rfl)
    go_wp2_with fail
    refine (wtext w _ g v1 x1 HI2.out HB2.out (by omega)).mono ?_
    rw [ByteArray.append_assoc]
    rintro r y2 ⟨rfl, hI, hB, hK⟩
    have hX := (KeepW.block hK HI2.out gb HNE.out HX2.out (by decide)).trans HX2.out
    have hY := (KeepW.block hK HI2.out wr.heap.size HNX.out HY.out (by decide)).trans HY.out
    obtain ⟨v2, hu⟩ : ∃ u, u = v1 ++ txE x1 := ⟨_, rfl⟩
    have q2 : v2.size ≤ v1.size + 265 := by rw [hu, ByteArray.size_append]; have := tz x1 256 (by omega) (by omega); omega
    replace hI : IsS49 w y2 g v2 := by rw [hu]; exact hI
    have HV2 := Lib.hid hu
    replace HX2 := Lib.hid hX
    replace HY := Lib.hid hY
    replace HI2 := Lib.hid hI
    replace HB2 := Lib.hid hB
    clear hI hB hK hX hY hu
    clear e1
    have HW : Hid (m4 ++ encs encW (ws.take (i + 1)) = v2) := Lib.hid (by
      rw [encs_take encW ws i hlt, ← HE.out, HV2.out, HV1.out, HV0.out, HU.out]
      simp only [encW, ByteArray.append_assoc])
    go_wp2
    go_roundg (gk - 1)
    case measure => have := HG.out; omega
    case rel => exact ⟨i + 1, by omega, by go_num, ⟨by have := HG.out; omega⟩, ⟨by rw [HW.out]; exact HI2.out, HB2.out, HX2.out⟩⟩
  have hsz := encs_size encW 400 ws (fun x hx => Hws.out x hx)
  rw [List.take_length] at HI
  obtain ⟨m5, hu⟩ : ∃ u, u = m4 ++ encs encW ws := ⟨_, rfl⟩
  have z5 : m5.size ≤ 6445 := by
    rw [hu, ByteArray.size_append]
    have h2 : ws.length * 400 ≤ 16 * 400 := Nat.mul_le_mul_right _ (by omega)
    omega
  rw [← hu] at HI
  have HU5 := Lib.hid hu
  clear hu hsz HG hz
  go_wp2_with fail
  refine (wbytes w _ g _ HI.out HB.out).mono ?_
  rintro r wl ⟨rfl, hI, hB, hK⟩
  replace HB := Lib.hid hB
  clear hI hB hK
  have HE : Hid (m5 = encE ⟨8, bc, bn, sp, sl, ap, al, mp, ml, pr, parts, done, ws⟩) := Lib.hid (by
    rw [HU5.out, HU4.out, HU3.out, HU2.out, HU1.out, HU0.out]
    simp [encE, hB, hS, hM, hA, hT, hD, encs, ByteArray.append_assoc])
  go_wp2_with fail
  go_ret2
  exact ⟨by rw [← HE.out]; rfl, HB.out⟩
set_option maxRecDepth 100000 in
set_option maxHeartbeats 16000000 in
theorem write_9 (e : En) (A : Option Addr) (c : Nat) (w : World) (hk : e.k = 9) (hok : EOk e) (hr : rightE e = true) (hC : Kd.C k54 w A e.ws.length e.ws) :
    Calls Try.prog 8 #[.agg #[.int .i64 e.k, .int .u32 e.bc, .int .u32 e.bn, .int .u64 e.sp, .int .u32 e.sl, .int .u64 e.ap, .int .u32 e.al, .int .u64 e.mp, .int .u32 e.ml, .string e.pr, .int .u8 e.parts, .bool e.done, .slice A e.ws.length c]] w fun r w' => r = .returned (.tuple #[.string (encE e), .int .i64 0]) ∧ Below w.heap.size w w' := by
  have HRI := Lib.hid (fun W (hb : Below w.heap.size w W) => (right_calls e A c W (Kd.C_below hC hb) hok.ws).mono fun r w' (h : r = .returned (.bool (rightE e)) ∧ Below W.heap.size W w') => (⟨by rw [h.1, hr], h.2⟩ : r = .returned (.bool true) ∧ Below W.heap.size W w'))
  have HFI := Lib.hid (fun W => fieldsB_calls e.k 395 (by rw [hk]; rfl) W)
  obtain ⟨-, -, ⟨g1, g2⟩, ⟨g3, g4⟩, ⟨g5, g6⟩, -⟩ := right_facts e hr
  have hn0 := right_nows e hr (by rw [hk]; rfl)
  obtain ⟨-, ⟨hb1, hb2⟩, ⟨hb3, hb4⟩, ⟨hb5, hb6⟩, ⟨hb7, hb8⟩, ⟨hb9, hb10⟩, ⟨hb11, hb12⟩, ⟨hb13, hb14⟩, ⟨hb15, hb16⟩, ⟨hb17, hb18⟩, -⟩ := hok
  clear hC hr
  obtain ⟨k, bc, bn, sp, sl, ap, al, mp, ml, pr, parts, done, ws⟩ := e
  dsimp only at *
  subst hk
  subst hn0
  have b1 : bits .and .i64 395 1 = 1 := by kernel_rfl
  have b2 : bits .and .i64 395 2 = 2 := by kernel_rfl
  have b4 : bits .and .i64 395 4 = 0 := by kernel_rfl
  have b8 : bits .and .i64 395 8 = 8 := by kernel_rfl
  have b16 : bits .and .i64 395 16 = 0 := by kernel_rfl
  have b32 : bits .and .i64 395 32 = 0 := by kernel_rfl
  have b96 : bits .and .i64 395 96 = 0 := by kernel_rfl
  have b128 : bits .and .i64 395 128 = 128 := by kernel_rfl
  have b256 : bits .and .i64 395 256 = 256 := by kernel_rfl
  go_enter Try.func8, Try.ntmps8
  go_upto_region 0 with (fail)
  go_step
  (with_reducible refine gate_dst (N := 1) rfl ?_)
  refine box_event ?hg (N := 1) ?hd (cs := #[(.int .i64 9), (.int .u32 bc), (.int .u32 bn), (.int .u64 sp), (.int .u32 sl), (.int .u64 ap), (.int .u32 al), (.int .u64 mp), (.int .u32 ml), (.string pr), (.int .u8 parts), (.bool done), (.slice A ([] : List S54).length c)]) (t := 30) ?hr ?_
  case hd => rfl
  case hg => rfl
  case hr => kernel_rfl
  intro gb hgb w1 hbox hbb
  have HB1 := Lib.hid hbb
  have HX1 := Lib.hid hbox
  clear hgb hbox hbb
  go_wp2_with ((with_reducible refine gate_dst (N := 8) rfl ?_); refine wpList_load_row rfl 30 (.tmp 1) rfl gb rfl 30 _ (0, 0) _ HX1.out Try.underlying30 rfl (by kernel_rfl) ?_)
  refine (HRI.out _ HB1.out).mono ?_
  rintro r w2 ⟨rfl, hb⟩
  have HX2 := Lib.hid ((hb.block _ (lt_at2 HX1.out)).trans HX1.out)
  have HB2 := Lib.hid (HB1.out.trans (hb.mono HB1.out.size))
  clear hb HX1 HB1 HRI
  have x0 : w2.cell? ⟨gb, 0, none⟩ = some (.int .i64 9) := (blk_cell HX2.out 0).trans rfl
  go_wp2_with fail
  refine (HFI.out _).mono ?_
  rintro r w3 ⟨rfl, hb⟩
  have HX3 := Lib.hid ((hb.block _ (lt_at2 HX2.out)).trans HX2.out)
  have HB3 := Lib.hid (HB2.out.trans (hb.mono HB2.out.size))
  clear hb HX2 HB2 HFI x0
  go_upto_region 4 with (fail)
  go_step
  go_step
  go_step
  go_step
  (with_reducible refine gate_dst (N := 15) rfl ?_)
  refine box_event ?hg (N := 15) ?hd (cs := #[.slice none 0 0]) (t := 49) ?hr ?_
  case hd => rfl
  case hg => rfl
  case hr => kernel_rfl
  intro g hgg w4 hbox hbb
  have HI : Hid (IsS49 w w4 g ByteArray.empty) := Lib.hid (made_at hbox (by rw [hgg]; exact HB3.out.size))
  have HX := Lib.hid ((hbb.block _ (lt_at2 HX3.out)).trans HX3.out)
  have HB := Lib.hid (HB3.out.trans (hbb.mono HB3.out.size))
  have HNE : Hid (gb ≠ g) := Lib.hid (by have := lt_at2 HX3.out; omega)
  obtain ⟨m0, hm0⟩ : ∃ m, m = ByteArray.empty := ⟨_, rfl⟩
  have z0 : m0.size ≤ 0 := by rw [hm0]; exact Nat.le_refl _
  rw [← hm0] at HI
  have HU0 := Lib.hid hm0
  clear hgg hbox hbb HX3 HB3 hm0
  have d0 := (blk_cell HX.out 0).trans (show _ = some (.int .i64 9) from rfl)
  have hz := z0
  go_wp2_with fail
  refine (wnum w _ g m0 (9) (by omega) (by omega) HI.out HB.out (by omega)).mono ?_
  clear d0
  clear hz
  rintro r u1w ⟨rfl, hI, hB, hK⟩
  have hX := (KeepW.block hK HI.out gb HNE.out HX.out (by decide)).trans HX.out
  obtain ⟨m1, hu⟩ : ∃ u, u = m0 ++ encB (9) := ⟨_, rfl⟩
  have z1 : m1.size ≤ 9 := by rw [hu, ByteArray.size_append]; have := bz (9) ⟨by omega, by omega⟩; omega
  replace hI : IsS49 w u1w g m1 := by rw [hu]; exact hI
  have HU1 := Lib.hid hu
  replace HX := Lib.hid hX
  replace HI := Lib.hid hI
  replace HB := Lib.hid hB
  clear hI hB hK hX hu
  have d1 := (blk_cell HX.out 1).trans (show _ = some (.int .u32 bc) from rfl)
  have hz := z1
  go_wp2_with fail
  refine (wnum w _ g m1 (bc) (by omega) (by omega) HI.out HB.out (by omega)).mono ?_
  clear d1
  clear hz
  rintro r u2w ⟨rfl, hI, hB, hK⟩
  have hX := (KeepW.block hK HI.out gb HNE.out HX.out (by decide)).trans HX.out
  obtain ⟨m2, hu⟩ : ∃ u, u = m1 ++ encB (bc) := ⟨_, rfl⟩
  have z2 : m2.size ≤ 18 := by rw [hu, ByteArray.size_append]; have := bz (bc) ⟨by omega, by omega⟩; omega
  replace hI : IsS49 w u2w g m2 := by rw [hu]; exact hI
  have HU2 := Lib.hid hu
  replace HX := Lib.hid hX
  replace HI := Lib.hid hI
  replace HB := Lib.hid hB
  clear hI hB hK hX hu
  have d2 := (blk_cell HX.out 2).trans (show _ = some (.int .u32 bn) from rfl)
  have hz := z2
  go_wp2_with fail
  refine (wnum w _ g m2 (bn) (by omega) (by omega) HI.out HB.out (by omega)).mono ?_
  clear d2
  clear hz
  rintro r u3w ⟨rfl, hI, hB, hK⟩
  have hX := (KeepW.block hK HI.out gb HNE.out HX.out (by decide)).trans HX.out
  obtain ⟨m3, hu⟩ : ∃ u, u = m2 ++ encB (bn) := ⟨_, rfl⟩
  have z3 : m3.size ≤ 27 := by rw [hu, ByteArray.size_append]; have := bz (bn) ⟨by omega, by omega⟩; omega
  replace hI : IsS49 w u3w g m3 := by rw [hu]; exact hI
  have HU3 := Lib.hid hu
  replace HX := Lib.hid hX
  replace HI := Lib.hid hI
  replace HB := Lib.hid hB
  clear hI hB hK hX hu
  have d3 := (blk_cell HX.out 3).trans (show _ = some (.int .u64 sp) from rfl)
  have d4 := (blk_cell HX.out 4).trans (show _ = some (.int .u32 sl) from rfl)
  have hz := z3
  go_wp2_with fail
  refine (wstamp w _ g m3 sp sl ⟨by omega, by omega⟩ ⟨by omega, by omega⟩ HI.out HB.out (by omega)).mono ?_
  rw [ByteArray.append_assoc]
  clear d3
  clear d4
  clear hz
  rintro r u4w ⟨rfl, hI, hB, hK⟩
  have hX := (KeepW.block hK HI.out gb HNE.out HX.out (by decide)).trans HX.out
  obtain ⟨m4, hu⟩ : ∃ u, u = m3 ++ (encB sp ++ encB sl) := ⟨_, rfl⟩
  have z4 : m4.size ≤ 45 := by rw [hu, ByteArray.size_append]; have := bz sp ⟨by omega, by omega⟩; have := bz sl ⟨by omega, by omega⟩; rw [ByteArray.size_append]; omega
  replace hI : IsS49 w u4w g m4 := by rw [hu]; exact hI
  have HU4 := Lib.hid hu
  replace HX := Lib.hid hX
  replace HI := Lib.hid hI
  replace HB := Lib.hid hB
  clear hI hB hK hX hu
  have d5 := (blk_cell HX.out 5).trans (show _ = some (.int .u64 ap) from rfl)
  have d6 := (blk_cell HX.out 6).trans (show _ = some (.int .u32 al) from rfl)
  have hz := z4
  go_wp2_with fail
  refine (wstamp w _ g m4 ap al ⟨by omega, by omega⟩ ⟨by omega, by omega⟩ HI.out HB.out (by omega)).mono ?_
  rw [ByteArray.append_assoc]
  clear d5
  clear d6
  clear hz
  rintro r u5w ⟨rfl, hI, hB, hK⟩
  have hX := (KeepW.block hK HI.out gb HNE.out HX.out (by decide)).trans HX.out
  obtain ⟨m5, hu⟩ : ∃ u, u = m4 ++ (encB ap ++ encB al) := ⟨_, rfl⟩
  have z5 : m5.size ≤ 63 := by rw [hu, ByteArray.size_append]; have := bz ap ⟨by omega, by omega⟩; have := bz al ⟨by omega, by omega⟩; rw [ByteArray.size_append]; omega
  replace hI : IsS49 w u5w g m5 := by rw [hu]; exact hI
  have HU5 := Lib.hid hu
  replace HX := Lib.hid hX
  replace HI := Lib.hid hI
  replace HB := Lib.hid hB
  clear hI hB hK hX hu
  have d12 := (blk_cell HX.out 12).trans (show _ = some (.slice A ([] : List S54).length c) from rfl)
  go_wp2_with fail
  clear d12
  go_loop [76] (fun i => i = .int .i64 0) (fun _ => 1)
  case atStart => rfl
  case round =>
  subst hrel
  have d10 := (blk_cell HX.out 10).trans (show _ = some (.int .u8 parts) from rfl)
  have hz := z5
  go_wp2_with fail
  refine (wnum w _ g m5 (parts) (by omega) (by omega) HI.out HB.out (by omega)).mono ?_
  clear d10
  clear hz
  rintro r u6w ⟨rfl, hI, hB, hK⟩
  have hX := (KeepW.block hK HI.out gb HNE.out HX.out (by decide)).trans HX.out
  obtain ⟨m6, hu⟩ : ∃ u, u = m5 ++ encB (parts) := ⟨_, rfl⟩
  have z6 : m6.size ≤ 72 := by rw [hu, ByteArray.size_append]; have := bz (parts) ⟨by omega, by omega⟩; omega
  replace hI : IsS49 w u6w g m6 := by rw [hu]; exact hI
  have HU6 := Lib.hid hu
  replace HX := Lib.hid hX
  replace HI := Lib.hid hI
  replace HB := Lib.hid hB
  clear hI hB hK hX hu
  have d11 := (blk_cell HX.out 11).trans (show _ = some (.bool done) from rfl)
  have hz := z6
  go_wp2_with fail
  refine (wflag w _ g m6 done HI.out HB.out (by omega)).mono ?_
  clear d11
  clear hz
  rintro r u7w ⟨rfl, hI, hB, hK⟩
  have hX := (KeepW.block hK HI.out gb HNE.out HX.out (by decide)).trans HX.out
  obtain ⟨m7, hu⟩ : ∃ u, u = m6 ++ encF done := ⟨_, rfl⟩
  have z7 : m7.size ≤ 73 := by rw [hu, ByteArray.size_append]; have := encF_size done; omega
  replace hI : IsS49 w u7w g m7 := by rw [hu]; exact hI
  have HU7 := Lib.hid hu
  replace HX := Lib.hid hX
  replace HI := Lib.hid hI
  replace HB := Lib.hid hB
  clear hI hB hK hX hu
  go_wp2_with fail
  refine (wbytes w _ g _ HI.out HB.out).mono ?_
  rintro r wl ⟨rfl, hI, hB, hK⟩
  replace HB := Lib.hid hB
  clear hI hB hK
  have HE : Hid (m7 = encE ⟨9, bc, bn, sp, sl, ap, al, mp, ml, pr, parts, done, []⟩) := Lib.hid (by
    rw [HU7.out, HU6.out, HU5.out, HU4.out, HU3.out, HU2.out, HU1.out, HU0.out]
    simp [encE, hB, hS, hM, hA, hT, hD, encs, ByteArray.append_assoc])
  go_wp2_with fail
  go_ret2
  exact ⟨by rw [← HE.out]; rfl, HB.out⟩
set_option maxRecDepth 100000 in
set_option maxHeartbeats 16000000 in
theorem write_not (e : En) (A : Option Addr) (c : Nat) (w : World) (hok : EOk e) (hr : ¬ rightE e = true) (hC : Kd.C k54 w A e.ws.length e.ws) :
    Calls Try.prog 8 #[.agg #[.int .i64 e.k, .int .u32 e.bc, .int .u32 e.bn, .int .u64 e.sp, .int .u32 e.sl, .int .u64 e.ap, .int .u32 e.al, .int .u64 e.mp, .int .u32 e.ml, .string e.pr, .int .u8 e.parts, .bool e.done, .slice A e.ws.length c]] w fun r w' => r = .returned (.tuple #[.string (writeE e).1, .int .i64 (writeE e).2]) ∧ Below w.heap.size w w' := by
  have hw : writeE e = (⟨#[]⟩, 1) := by unfold writeE; rw [if_neg hr]
  rw [hw]
  clear hw
  have HRI := Lib.hid (fun W (hb : Below w.heap.size w W) => (right_calls e A c W (Kd.C_below hC hb) hok.ws).mono fun r w' (h : r = .returned (.bool (rightE e)) ∧ Below W.heap.size W w') => (⟨by rw [h.1, (by simpa using hr : rightE e = false)], h.2⟩ : r = .returned (.bool false) ∧ Below W.heap.size W w'))
  clear hC hr hok
  obtain ⟨k, bc, bn, sp, sl, ap, al, mp, ml, pr, parts, done, ws⟩ := e
  dsimp only at *
  go_enter Try.func8, Try.ntmps8
  go_upto_region 0 with (fail)
  go_step
  (with_reducible refine gate_dst (N := 1) rfl ?_)
  refine box_event ?hg (N := 1) ?hd (cs := #[(.int .i64 k), (.int .u32 bc), (.int .u32 bn), (.int .u64 sp), (.int .u32 sl), (.int .u64 ap), (.int .u32 al), (.int .u64 mp), (.int .u32 ml), (.string pr), (.int .u8 parts), (.bool done), (.slice A ws.length c)]) (t := 30) ?hr ?_
  case hd => rfl
  case hg => rfl
  case hr => kernel_rfl
  intro gb hgb w1 hbox hbb
  have HB1 := Lib.hid hbb
  have HX1 := Lib.hid hbox
  clear hgb hbox hbb
  go_wp2_with ((with_reducible refine gate_dst (N := 8) rfl ?_); refine wpList_load_row rfl 30 (.tmp 1) rfl gb rfl 30 _ (0, 0) _ HX1.out Try.underlying30 rfl (by kernel_rfl) ?_)
  refine (HRI.out _ HB1.out).mono ?_
  rintro r w2 ⟨rfl, hb⟩
  have HB2 := Lib.hid (HB1.out.trans (hb.mono HB1.out.size))
  clear hb HX1 HB1 HRI
  go_wp2_with fail
  go_ret2
  exact ⟨rfl, HB2.out⟩
theorem write_calls (e : En) (A : Option Addr) (c : Nat) (w : World) (hok : EOk e) (hC : Kd.C k54 w A e.ws.length e.ws) :
    Calls Try.prog 8 #[.agg #[.int .i64 e.k, .int .u32 e.bc, .int .u32 e.bn, .int .u64 e.sp, .int .u32 e.sl, .int .u64 e.ap, .int .u32 e.al, .int .u64 e.mp, .int .u32 e.ml, .string e.pr, .int .u8 e.parts, .bool e.done, .slice A e.ws.length c]] w fun r w' => r = .returned (.tuple #[.string (writeE e).1, .int .i64 (writeE e).2]) ∧ Below w.heap.size w w' := by
  by_cases hr : rightE e = true
  · have h := (right_facts e hr).1
    have hw : writeE e = (encE e, 0) := by unfold writeE; rw [if_pos hr]
    rw [hw]
    rcases (show e.k = 1 ∨ e.k = 2 ∨ e.k = 3 ∨ e.k = 4 ∨ e.k = 5 ∨ e.k = 6 ∨ e.k = 7 ∨ e.k = 8 ∨ e.k = 9 by omega) with hk | hk | hk | hk | hk | hk | hk | hk | hk
    · exact write_1 e A c w hk hok hr hC
    · exact write_2 e A c w hk hok hr hC
    · exact write_3 e A c w hk hok hr hC
    · exact write_4 e A c w hk hok hr hC
    · exact write_5 e A c w hk hok hr hC
    · exact write_6 e A c w hk hok hr hC
    · exact write_7 e A c w hk hok hr hC
    · exact write_8 e A c w hk hok hr hC
    · exact write_9 e A c w hk hok hr hC
  · exact write_not e A c w hok hr hC
end Go.Proofs.Ytblabgdkbcphkaa

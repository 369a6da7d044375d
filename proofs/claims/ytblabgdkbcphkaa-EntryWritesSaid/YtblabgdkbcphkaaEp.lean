/- The document's Write is entry's. Conditions: those that each theorem names. -/
import Derived.Test.YtblabgdkbcphkaaEo
import Derived.Test.YtblabgdkbcphkaaEm
set_option linter.unusedVariables false
set_option linter.unusedSimpArgs false
set_option linter.constructorNameAsVariable false
namespace Go.Proofs.Ytblabgdkbcphkaa
open Go.RowKit Go.Deep Go.Proofs.YtblabgdkbcphkaaW.PrintWords Go.Proofs.Ytblabgdkbcphkaa.PEs Go.Proofs.Ytblabgdkbcphkaa.PRd
theorem ref_number (n : Int) (h0 : 0 ≤ n) (h1 : n ≤ 18446744073709551615) (w : World) : Calls Try.prog 21 #[.int .u64 n] w fun e w' => e = .returned (.string (encB n)) ∧ Below w.heap.size w w' :=
  PDr.dovecoteref02_Number.calls 10 n _ w (number_fk 10 (by decide) n h0 h1)
theorem ref_numberw (n : Int) (h0 : 0 ≤ n) (h1 : n ≤ 9223372036854775807) (w : World) : Calls Try.prog 21 #[.int .u64 (IntKind.u64.wrap n)] w fun e w' => e = .returned (.string (encB n)) ∧ Below w.heap.size w w' := by
  rw [u64_id _ h0 h1]
  exact ref_number n h0 (by omega) w
theorem ref_flag (b : Bool) (w : World) : Calls Try.prog 25 #[.bool b] w fun e w' => e = .returned (.string (encF b)) ∧ Below w.heap.size w w' :=
  (PDr.dovecoteref02_Flag.calls b _ w (by cases b <;> rfl)).mono fun _ _ ⟨h, k⟩ => ⟨h, k.below⟩
set_option maxRecDepth 100000 in
set_option maxHeartbeats 1000000 in
theorem ref_text (s : ByteArray) (h : s.size ≤ 100000) (w : World) : Calls Try.prog 23 #[.string s] w fun e w' => e = .returned (.string (txE s)) ∧ Below w.heap.size w w' := by
  have hsz := encB_size (n := (s.size : Int)) (by omega)
  go_enter Try.func23, Try.ntmps23
  go_wp2_with fail
  refine (ref_number _ (by omega) (by omega) _).mono ?_
  rintro e w1 ⟨rfl, hB⟩
  have HB := Lib.hid hB
  have HT : Hid (txE s = encB s.size ++ s) := Lib.hid rfl
  clear hB
  generalize hu : encB s.size = u at *
  have Hu := Lib.hid hu
  clear hu
  go_wp2
  go_ret
  exact ⟨by rw [HT.out]; rfl, HB.out⟩
theorem stamp_ref (p l : Int) (hp : 0 ≤ p ∧ p ≤ 18446744073709551615) (hl : 0 ≤ l ∧ l ≤ 4294967295) : PDr.dovecoteref02_Stamp.f 10 p l = some (encB p ++ encB l) := by
  unfold PDr.dovecoteref02_Stamp.f
  rw [u64_id _ hl.1 (by omega), number_fk 10 (by decide) _ hp.1 hp.2, Option.bind_some, number_fk 10 (by decide) _ hl.1 (by omega), Option.bind_some]
  have := encB_size hp.2
  have := encB_size (n := l) (by omega)
  rw [if_pos (by omega)]
theorem ref_stamp (p l : Int) (hp : 0 ≤ p ∧ p ≤ 18446744073709551615) (hl : 0 ≤ l ∧ l ≤ 4294967295) (w : World) : Calls Try.prog 22 #[.agg #[.int .u64 p, .int .u32 l]] w fun e w' => e = .returned (.string (encB p ++ encB l)) ∧ Below w.heap.size w w' :=
  PDr.dovecoteref02_Stamp.calls 10 p l _ w (stamp_ref p l hp hl)
/-- A string that a call answers, whatever was made since. -/
theorem pack {w0 : World} {f : Nat} {vs : Array Value} {x : ByteArray} (m : Nat) (hm : x.size ≤ m) (h : ∀ W, Calls Try.prog f vs W fun e w' => e = .returned (.string x) ∧ Below W.heap.size W w') :
    ∃ t, x = t ∧ t.size ≤ m ∧ Hid (∀ W, Below w0.heap.size w0 W → Calls Try.prog f vs W fun e w' => e = .returned (.string t) ∧ Below w0.heap.size w0 w') :=
  ⟨x, rfl, hm, Lib.hid (fun W hb => (h W).mono fun _ _ ⟨h1, h2⟩ => ⟨h1, bel_then hb h2⟩)⟩
theorem st_size (p l : Int) (hp : 0 ≤ p ∧ p ≤ 18446744073709551615) (hl : 0 ≤ l ∧ l ≤ 4294967295) : (encB p ++ encB l).size ≤ 18 := by
  have := bz p hp
  have := bz l ⟨hl.1, by omega⟩
  rw [ByteArray.size_append]
  omega
set_option maxRecDepth 100000 in
set_option maxHeartbeats 4000000 in
theorem wwrite_calls (x : S54) (h : x.f0.size ≤ 32 ∧ x.f1.size ≤ 256) (w : World) : Calls Try.prog 24 #[.agg #[.string x.f0, .string x.f1, .bool x.f2]] w fun e w' => e = .returned (.string (encW x)) ∧ Below w.heap.size w w' := by
  have HW : Hid (encW x = txE x.f0 ++ encF x.f2 ++ txE x.f1) := Lib.hid rfl
  obtain ⟨h0, h1⟩ := h
  obtain ⟨x0, x1, x2⟩ := x
  dsimp only at *
  go_enter Try.func24, Try.ntmps24
  go_upto_region 0 with (fail)
  go_step
  (with_reducible refine gate_dst (N := 1) rfl ?_)
  refine box_event ?hg (N := 1) ?hd (cs := #[.string x0, .string x1, .bool x2]) (t := 54) ?hr ?_
  case hd => rfl
  case hg => rfl
  case hr => kernel_rfl
  intro gb hgb w1 hbox hbb
  have HB1 := Lib.hid hbb
  have HX1 := Lib.hid hbox
  clear hgb hbox hbb
  obtain ⟨t0, e0', z0, T0⟩ := pack (w0 := w1) 41 (tz x0 32 h0 (by omega)) (fun W => ref_text x0 (by omega) W)
  obtain ⟨t1, e1', z1, T1⟩ := pack (w0 := w1) 265 (tz x1 256 h1 (by omega)) (fun W => ref_text x1 (by omega) W)
  obtain ⟨t2, e2', z2, T2⟩ := pack (w0 := w1) 1 (Nat.le_of_eq (encF_size x2)) (fun W => ref_flag x2 W)
  rw [e0', e1', e2'] at HW
  clear e0' e1' e2'
  obtain ⟨ca, cb, cc⟩ := cat3 (show t0.size + t2.size ≤ 9223372036854775807 by omega)
  obtain ⟨da, db, dc⟩ := cat3 (show t0.size + t2.size + t1.size ≤ 9223372036854775807 by omega)
  have HKS : Hid (∀ W, Below w1.heap.size w1 W → Below w1.heap.size w1 W ∧ W.cell? ⟨gb, 0, none⟩ = some (.string x0) ∧ W.cell? ⟨gb, 1, none⟩ = some (.string x1) ∧ W.cell? ⟨gb, 2, none⟩ = some (.bool x2)) := Lib.hid (fun W hb => by
    have h := (hb.block _ (lt_at2 HX1.out)).trans HX1.out
    exact ⟨hb, (blk_cell h 0).trans rfl, (blk_cell h 1).trans rfl, (blk_cell h 2).trans rfl⟩)
  have y0 : w1.cell? ⟨gb, 0, none⟩ = some (.string x0) := (blk_cell HX1.out 0).trans rfl
  have y1 : w1.cell? ⟨gb, 1, none⟩ = some (.string x1) := (blk_cell HX1.out 1).trans rfl
  have y2 : w1.cell? ⟨gb, 2, none⟩ = some (.bool x2) := (blk_cell HX1.out 2).trans rfl
  go_wp2_with fail
  go_region_held3 (fun w' => Below w1.heap.size w1 w' ∧ w'.cell? ⟨gb, 0, none⟩ = some (.string x0) ∧ w'.cell? ⟨gb, 1, none⟩ = some (.string x1) ∧ w'.cell? ⟨gb, 2, none⟩ = some (.bool x2)) (first | exact HKS.out _ (below_drew1 (Below.refl _ _)) | exact HKS.out _ (by assumption) | go_keep) (first | (go_at_call 25; refine (T2.out _ (by first | assumption | exact And.left (by assumption) | exact below_drew1 (Below.refl _ _))).mono ?_; rintro r wb ⟨rfl, hbb⟩) | (go_at_call 23; (with_reducible refine (T0.out _ (by first | assumption | exact And.left (by assumption) | exact below_drew1 (Below.refl _ _))).mono ?_); rintro r wa ⟨rfl, hba⟩) | (go_at_call 23; (with_reducible refine (T1.out _ (by first | assumption | exact And.left (by assumption) | exact below_drew1 (Below.refl _ _))).mono ?_); rintro r wc ⟨rfl, hbc⟩))
  go_wp2_with fail
  go_ret
  exact ⟨by rw [HW.out]; rfl, HB1.out.trans (hbc.mono HB1.out.size)⟩
set_option maxRecDepth 100000 in
set_option maxHeartbeats 16000000 in
theorem rwrite_1 (e : En) (A : Option Addr) (c : Nat) (w : World) (hk : e.k = 1) (hok : EOk e) (hr : rightE e = true) (hin : EnIn w e A c) :
    Calls Try.prog 9 #[.agg #[.int .i64 e.k, .int .u32 e.bc, .int .u32 e.bn, .int .u64 e.sp, .int .u32 e.sl, .int .u64 e.ap, .int .u32 e.al, .int .u64 e.mp, .int .u32 e.ml, .string e.pr, .int .u8 e.parts, .bool e.done, .slice A e.ws.length c]] w fun r w' => r = .returned (.tuple #[.string (encE e), .int .i64 0]) ∧ Below w.heap.size w w' := by
  have HRI := Lib.hid (fun W (hb : Below w.heap.size w W) => (rright_calls e A c W (hin.below hb) hok.ws).mono fun r w' (h : r = .returned (.bool (rightE e)) ∧ Below W.heap.size W w') => (⟨by rw [h.1, hr], h.2⟩ : r = .returned (.bool true) ∧ Below W.heap.size W w'))
  have hl2 : (e.ws.length : Int) ≤ 9223372036854775807 := by have := hok.ws; omega
  obtain ⟨-, -, ⟨g1, g2⟩, ⟨g3, g4⟩, ⟨g5, g6⟩, -⟩ := right_facts e hr
  have hn0 := right_nows e hr (by rw [hk]; rfl)
  obtain ⟨-, ⟨hb1, hb2⟩, ⟨hb3, hb4⟩, ⟨hb5, hb6⟩, ⟨hb7, hb8⟩, ⟨hb9, hb10⟩, ⟨hb11, hb12⟩, ⟨hb13, hb14⟩, ⟨hb15, hb16⟩, ⟨hb17, hb18⟩, -⟩ := hok
  clear hin hr
  obtain ⟨k, bc, bn, sp, sl, ap, al, mp, ml, pr, parts, done, ws⟩ := e
  dsimp only at *
  subst hk
  subst hn0
  go_enter Try.func9, Try.ntmps9
  go_upto_region 0 with (fail)
  go_step
  (with_reducible refine gate_dst (N := 1) rfl ?_)
  refine box_event ?hg (N := 1) ?hd (cs := #[(.int .i64 1), (.int .u32 bc), (.int .u32 bn), (.int .u64 sp), (.int .u32 sl), (.int .u64 ap), (.int .u32 al), (.int .u64 mp), (.int .u32 ml), (.string pr), (.int .u8 parts), (.bool done), (.slice A ([] : List S54).length c)]) (t := 30) ?hr ?_
  case hd => rfl
  case hg => rfl
  case hr => kernel_rfl
  intro gb hgb w1 hbox hbb
  have HB1 := Lib.hid hbb
  have HX1 := Lib.hid hbox
  clear hgb hbox hbb
  go_wp2_with ((with_reducible refine gate_dst (N := 6) rfl ?_); refine wpList_load_row rfl 30 (.tmp 1) rfl gb rfl 30 _ (0, 0) _ HX1.out Try.underlying30 rfl (by kernel_rfl) ?_)
  refine (HRI.out _ HB1.out).mono ?_
  rintro r w2 ⟨rfl, hb⟩
  have HX2 := Lib.hid ((hb.block _ (lt_at2 HX1.out)).trans HX1.out)
  have HB2 := Lib.hid (HB1.out.trans (hb.mono HB1.out.size))
  clear hb HX1 HB1 HRI
  have HBW : Hid (Below w2.heap.size w2 w2) := Lib.hid (Below.refl _ _)
  obtain ⟨tk, etk, ztk, Ttk⟩ := pack (w0 := w2) 9 (bz (1) ⟨by omega, by omega⟩) (fun W => ref_number (1) (by omega) (by omega) W)
  have Etk := Lib.hid etk
  clear etk
  have y0 : w2.cell? ⟨gb, 0, none⟩ = some (.int .i64 1) := (blk_cell ((HBW.out.block _ (lt_at2 HX2.out)).trans HX2.out) 0).trans rfl
  go_wp2_with fail
  refine (Ttk.out _ HBW.out).mono ?_
  rintro r wv1 ⟨rfl, hb⟩
  replace HBW := Lib.hid hb
  clear hb y0
  obtain ⟨m1, hm⟩ : ∃ m, m = tk := ⟨_, rfl⟩
  have zm1 : m1.size ≤ 9 := by rw [hm]; omega
  rw [← hm]
  have HM1 := Lib.hid hm
  clear hm
  obtain ⟨ta, eta, zta, Tta⟩ := pack (w0 := w2) 18 (st_size ap al ⟨by omega, by omega⟩ ⟨by omega, by omega⟩) (fun W => ref_stamp ap al ⟨by omega, by omega⟩ ⟨by omega, by omega⟩ W)
  have Eta := Lib.hid eta
  clear eta
  obtain ⟨ca1, cb1, cc1⟩ := cat3 (show m1.size + ta.size ≤ 9223372036854775807 by omega)
  have y0 : wv1.cell? ⟨gb, 0, none⟩ = some (.int .i64 1) := (blk_cell ((HBW.out.block _ (lt_at2 HX2.out)).trans HX2.out) 0).trans rfl
  have y5 : wv1.cell? ⟨gb, 5, none⟩ = some (.int .u64 ap) := (blk_cell ((HBW.out.block _ (lt_at2 HX2.out)).trans HX2.out) 5).trans rfl
  have y6 : wv1.cell? ⟨gb, 6, none⟩ = some (.int .u32 al) := (blk_cell ((HBW.out.block _ (lt_at2 HX2.out)).trans HX2.out) 6).trans rfl
  go_wp2_with fail
  refine (Tta.out _ HBW.out).mono ?_
  rintro r wv2 ⟨rfl, hb⟩
  replace HBW := Lib.hid hb
  clear hb y0 y5 y6
  go_upto_region 18 with (fail)
  obtain ⟨m2, hm⟩ : ∃ m, m = m1 ++ ta := ⟨_, rfl⟩
  have zm2 : m2.size ≤ 27 := by rw [hm]; simp only [ByteArray.size_append]; omega
  rw [← hm]
  have HM2 := Lib.hid hm
  clear hm
  clear ca1 cb1 cc1
  have y12 : wv2.cell? ⟨gb, 12, none⟩ = some (.slice A ([] : List S54).length c) := (blk_cell ((HBW.out.block _ (lt_at2 HX2.out)).trans HX2.out) 12).trans rfl
  go_wp2_with fail
  go_loop [4, 5] (fun s i => s = .string m2 ∧ i = .int .i64 0) (fun _ _ => 1)
  case atStart => exact ⟨rfl, rfl⟩
  case round =>
  obtain ⟨rfl, rfl⟩ := hrel
  have y0 : wv2.cell? ⟨gb, 0, none⟩ = some (.int .i64 1) := (blk_cell ((HBW.out.block _ (lt_at2 HX2.out)).trans HX2.out) 0).trans rfl
  have HE : Hid (m2 = encE ⟨1, bc, bn, sp, sl, ap, al, mp, ml, pr, parts, done, []⟩) := Lib.hid (by
    rw [HM2.out, HM1.out]
    rw [← Etk.out, ← Eta.out]
    simp [encE, hB, hS, hM, hA, hT, hD, encs, ByteArray.append_assoc])
  go_wp2_with fail
  go_ret2
  exact ⟨by rw [← HE.out]; rfl, HB2.out.trans (HBW.out.mono HB2.out.size)⟩
set_option maxRecDepth 100000 in
set_option maxHeartbeats 16000000 in
theorem rwrite_2 (e : En) (A : Option Addr) (c : Nat) (w : World) (hk : e.k = 2) (hok : EOk e) (hr : rightE e = true) (hin : EnIn w e A c) :
    Calls Try.prog 9 #[.agg #[.int .i64 e.k, .int .u32 e.bc, .int .u32 e.bn, .int .u64 e.sp, .int .u32 e.sl, .int .u64 e.ap, .int .u32 e.al, .int .u64 e.mp, .int .u32 e.ml, .string e.pr, .int .u8 e.parts, .bool e.done, .slice A e.ws.length c]] w fun r w' => r = .returned (.tuple #[.string (encE e), .int .i64 0]) ∧ Below w.heap.size w w' := by
  have HRI := Lib.hid (fun W (hb : Below w.heap.size w W) => (rright_calls e A c W (hin.below hb) hok.ws).mono fun r w' (h : r = .returned (.bool (rightE e)) ∧ Below W.heap.size W w') => (⟨by rw [h.1, hr], h.2⟩ : r = .returned (.bool true) ∧ Below W.heap.size W w'))
  have hl2 : (e.ws.length : Int) ≤ 9223372036854775807 := by have := hok.ws; omega
  obtain ⟨-, -, ⟨g1, g2⟩, ⟨g3, g4⟩, ⟨g5, g6⟩, -⟩ := right_facts e hr
  obtain ⟨hws, hall⟩ := right_ws e hr
  have HwsE : Hid (∀ x ∈ e.ws, x.f0.size ≤ 32 ∧ x.f1.size ≤ 256) := Lib.hid (fun x hx => ⟨(hall x hx).1.2, (hall x hx).2⟩)
  have Hws : Hid (∀ x ∈ e.ws, (encW x).size ≤ 400) := Lib.hid (fun x hx => encW_size x (HwsE.out x hx))
  clear hall
  have HCws := Lib.hid hin.h
  have hpr := (right_pr e hr hk).1.2
  obtain ⟨-, ⟨hb1, hb2⟩, ⟨hb3, hb4⟩, ⟨hb5, hb6⟩, ⟨hb7, hb8⟩, ⟨hb9, hb10⟩, ⟨hb11, hb12⟩, ⟨hb13, hb14⟩, ⟨hb15, hb16⟩, ⟨hb17, hb18⟩, -⟩ := hok
  clear hin hr
  obtain ⟨k, bc, bn, sp, sl, ap, al, mp, ml, pr, parts, done, ws⟩ := e
  dsimp only at *
  subst hk
  go_enter Try.func9, Try.ntmps9
  go_upto_region 0 with (fail)
  go_step
  (with_reducible refine gate_dst (N := 1) rfl ?_)
  refine box_event ?hg (N := 1) ?hd (cs := #[(.int .i64 2), (.int .u32 bc), (.int .u32 bn), (.int .u64 sp), (.int .u32 sl), (.int .u64 ap), (.int .u32 al), (.int .u64 mp), (.int .u32 ml), (.string pr), (.int .u8 parts), (.bool done), (.slice A ws.length c)]) (t := 30) ?hr ?_
  case hd => rfl
  case hg => rfl
  case hr => kernel_rfl
  intro gb hgb w1 hbox hbb
  have HB1 := Lib.hid hbb
  have HX1 := Lib.hid hbox
  clear hgb hbox hbb
  go_wp2_with ((with_reducible refine gate_dst (N := 6) rfl ?_); refine wpList_load_row rfl 30 (.tmp 1) rfl gb rfl 30 _ (0, 0) _ HX1.out Try.underlying30 rfl (by kernel_rfl) ?_)
  refine (HRI.out _ HB1.out).mono ?_
  rintro r w2 ⟨rfl, hb⟩
  have HX2 := Lib.hid ((hb.block _ (lt_at2 HX1.out)).trans HX1.out)
  have HB2 := Lib.hid (HB1.out.trans (hb.mono HB1.out.size))
  clear hb HX1 HB1 HRI
  have HBW : Hid (Below w2.heap.size w2 w2) := Lib.hid (Below.refl _ _)
  obtain ⟨tk, etk, ztk, Ttk⟩ := pack (w0 := w2) 9 (bz (2) ⟨by omega, by omega⟩) (fun W => ref_number (2) (by omega) (by omega) W)
  have Etk := Lib.hid etk
  clear etk
  have y0 : w2.cell? ⟨gb, 0, none⟩ = some (.int .i64 2) := (blk_cell ((HBW.out.block _ (lt_at2 HX2.out)).trans HX2.out) 0).trans rfl
  go_wp2_with fail
  refine (Ttk.out _ HBW.out).mono ?_
  rintro r wv1 ⟨rfl, hb⟩
  replace HBW := Lib.hid hb
  clear hb y0
  obtain ⟨m1, hm⟩ : ∃ m, m = tk := ⟨_, rfl⟩
  have zm1 : m1.size ≤ 9 := by rw [hm]; omega
  rw [← hm]
  have HM1 := Lib.hid hm
  clear hm
  obtain ⟨tb, etb, ztb, Ttb⟩ := pack (w0 := w2) 9 (bz (bc) ⟨by omega, by omega⟩) (fun W => ref_numberw (bc) (by omega) (by omega) W)
  have Etb := Lib.hid etb
  clear etb
  obtain ⟨tn, etn, ztn, Ttn⟩ := pack (w0 := w2) 9 (bz (bn) ⟨by omega, by omega⟩) (fun W => ref_numberw (bn) (by omega) (by omega) W)
  have Etn := Lib.hid etn
  clear etn
  obtain ⟨ca1, cb1, cc1⟩ := cat3 (show m1.size + tb.size ≤ 9223372036854775807 by omega)
  obtain ⟨ca2, cb2, cc2⟩ := cat3 (show m1.size + tb.size + tn.size ≤ 9223372036854775807 by omega)
  have HKS : Hid (∀ W, Below w2.heap.size w2 W → Below w2.heap.size w2 W ∧ W.cell? ⟨gb, 0, none⟩ = some (.int .i64 2) ∧ W.cell? ⟨gb, 1, none⟩ = some (.int .u32 bc) ∧ W.cell? ⟨gb, 2, none⟩ = some (.int .u32 bn)) := Lib.hid (fun W hb => by
    have h := (hb.block _ (lt_at2 HX2.out)).trans HX2.out
    exact ⟨hb, (blk_cell h 0).trans rfl, (blk_cell h 1).trans rfl, (blk_cell h 2).trans rfl⟩)
  have hbw := HBW.out
  have y0 : wv1.cell? ⟨gb, 0, none⟩ = some (.int .i64 2) := (blk_cell ((HBW.out.block _ (lt_at2 HX2.out)).trans HX2.out) 0).trans rfl
  have y1 : wv1.cell? ⟨gb, 1, none⟩ = some (.int .u32 bc) := (blk_cell ((HBW.out.block _ (lt_at2 HX2.out)).trans HX2.out) 1).trans rfl
  have y2 : wv1.cell? ⟨gb, 2, none⟩ = some (.int .u32 bn) := (blk_cell ((HBW.out.block _ (lt_at2 HX2.out)).trans HX2.out) 2).trans rfl
  go_wp2_with fail
  go_region_held3 (fun w' => Below w2.heap.size w2 w' ∧ w'.cell? ⟨gb, 0, none⟩ = some (.int .i64 2) ∧ w'.cell? ⟨gb, 1, none⟩ = some (.int .u32 bc) ∧ w'.cell? ⟨gb, 2, none⟩ = some (.int .u32 bn)) (first | exact HKS.out _ (below_drew1 HBW.out) | exact HKS.out _ (by assumption) | go_keep) (first | (go_at_call 21; (with_reducible refine (Ttb.out _ (by first | assumption | exact And.left (by assumption) | exact below_drew1 (by assumption) | exact below_drew1 (Below.refl _ _))).mono ?_); rintro r wp1 ⟨rfl, hbp1⟩) | (go_at_call 21; (with_reducible refine (Ttn.out _ (by first | assumption | exact And.left (by assumption) | exact below_drew1 (by assumption) | exact below_drew1 (Below.refl _ _))).mono ?_); rintro r wp2 ⟨rfl, hbp2⟩))
  replace HBW := Lib.hid hbp2
  clear hbw HKS y0 y1 y2
  obtain ⟨m2, hm⟩ : ∃ m, m = m1 ++ tb ++ tn := ⟨_, rfl⟩
  have zm2 : m2.size ≤ 27 := by rw [hm]; simp only [ByteArray.size_append]; omega
  rw [← hm]
  have HM2 := Lib.hid hm
  clear hm
  clear ca1 cb1 cc1 ca2 cb2 cc2
  obtain ⟨ts, ets, zts, Tts⟩ := pack (w0 := w2) 18 (st_size sp sl ⟨by omega, by omega⟩ ⟨by omega, by omega⟩) (fun W => ref_stamp sp sl ⟨by omega, by omega⟩ ⟨by omega, by omega⟩ W)
  have Ets := Lib.hid ets
  clear ets
  obtain ⟨ca3, cb3, cc3⟩ := cat3 (show m2.size + ts.size ≤ 9223372036854775807 by omega)
  have y0 : wp2.cell? ⟨gb, 0, none⟩ = some (.int .i64 2) := (blk_cell ((HBW.out.block _ (lt_at2 HX2.out)).trans HX2.out) 0).trans rfl
  have y3 : wp2.cell? ⟨gb, 3, none⟩ = some (.int .u64 sp) := (blk_cell ((HBW.out.block _ (lt_at2 HX2.out)).trans HX2.out) 3).trans rfl
  have y4 : wp2.cell? ⟨gb, 4, none⟩ = some (.int .u32 sl) := (blk_cell ((HBW.out.block _ (lt_at2 HX2.out)).trans HX2.out) 4).trans rfl
  go_wp2_with fail
  refine (Tts.out _ HBW.out).mono ?_
  rintro r wv3 ⟨rfl, hb⟩
  replace HBW := Lib.hid hb
  clear hb y0 y3 y4
  have y0 := (blk_cell ((HBW.out.block _ (lt_at2 HX2.out)).trans HX2.out) 0).trans (show _ = some (.int .i64 2) from rfl)
  go_upto_region 10 with (fail)
  obtain ⟨m3, hm⟩ : ∃ m, m = m2 ++ ts := ⟨_, rfl⟩
  have zm3 : m3.size ≤ 45 := by rw [hm]; simp only [ByteArray.size_append]; omega
  rw [← hm]
  have HM3 := Lib.hid hm
  clear hm
  clear ca3 cb3 cc3 y0
  obtain ⟨tm, etm, ztm, Ttm⟩ := pack (w0 := w2) 18 (st_size mp ml ⟨by omega, by omega⟩ ⟨by omega, by omega⟩) (fun W => ref_stamp mp ml ⟨by omega, by omega⟩ ⟨by omega, by omega⟩ W)
  have Etm := Lib.hid etm
  clear etm
  obtain ⟨tp, etp, ztp, Ttp⟩ := pack (w0 := w2) 41 (tz pr 32 (by omega) (by omega)) (fun W => ref_text pr (by omega) W)
  have Etp := Lib.hid etp
  clear etp
  obtain ⟨tc, etc, ztc, Ttc⟩ := pack (w0 := w2) 9 (bz ((ws.length : Int)) ⟨by omega, by omega⟩) (fun W => ref_numberw ((ws.length : Int)) (by omega) (by omega) W)
  have Etc := Lib.hid etc
  clear etc
  obtain ⟨ca4, cb4, cc4⟩ := cat3 (show m3.size + tm.size ≤ 9223372036854775807 by omega)
  obtain ⟨ca5, cb5, cc5⟩ := cat3 (show m3.size + tm.size + tp.size ≤ 9223372036854775807 by omega)
  obtain ⟨ca6, cb6, cc6⟩ := cat3 (show m3.size + tm.size + tp.size + tc.size ≤ 9223372036854775807 by omega)
  have HKS : Hid (∀ W, Below w2.heap.size w2 W → Below w2.heap.size w2 W ∧ W.cell? ⟨gb, 0, none⟩ = some (.int .i64 2) ∧ W.cell? ⟨gb, 7, none⟩ = some (.int .u64 mp) ∧ W.cell? ⟨gb, 8, none⟩ = some (.int .u32 ml) ∧ W.cell? ⟨gb, 9, none⟩ = some (.string pr) ∧ W.cell? ⟨gb, 12, none⟩ = some (.slice A ws.length c)) := Lib.hid (fun W hb => by
    have h := (hb.block _ (lt_at2 HX2.out)).trans HX2.out
    exact ⟨hb, (blk_cell h 0).trans rfl, (blk_cell h 7).trans rfl, (blk_cell h 8).trans rfl, (blk_cell h 9).trans rfl, (blk_cell h 12).trans rfl⟩)
  have hbw := HBW.out
  have y0 : wv3.cell? ⟨gb, 0, none⟩ = some (.int .i64 2) := (blk_cell ((HBW.out.block _ (lt_at2 HX2.out)).trans HX2.out) 0).trans rfl
  have y7 : wv3.cell? ⟨gb, 7, none⟩ = some (.int .u64 mp) := (blk_cell ((HBW.out.block _ (lt_at2 HX2.out)).trans HX2.out) 7).trans rfl
  have y8 : wv3.cell? ⟨gb, 8, none⟩ = some (.int .u32 ml) := (blk_cell ((HBW.out.block _ (lt_at2 HX2.out)).trans HX2.out) 8).trans rfl
  have y9 : wv3.cell? ⟨gb, 9, none⟩ = some (.string pr) := (blk_cell ((HBW.out.block _ (lt_at2 HX2.out)).trans HX2.out) 9).trans rfl
  have y12 : wv3.cell? ⟨gb, 12, none⟩ = some (.slice A ws.length c) := (blk_cell ((HBW.out.block _ (lt_at2 HX2.out)).trans HX2.out) 12).trans rfl
  go_wp2_with fail
  go_region_held3 (fun w' => Below w2.heap.size w2 w' ∧ w'.cell? ⟨gb, 0, none⟩ = some (.int .i64 2) ∧ w'.cell? ⟨gb, 7, none⟩ = some (.int .u64 mp) ∧ w'.cell? ⟨gb, 8, none⟩ = some (.int .u32 ml) ∧ w'.cell? ⟨gb, 9, none⟩ = some (.string pr) ∧ w'.cell? ⟨gb, 12, none⟩ = some (.slice A ws.length c)) (first | exact HKS.out _ (below_drew1 HBW.out) | exact HKS.out _ (by assumption) | go_keep) (first | (go_at_call 22; (with_reducible refine (Ttm.out _ (by first | assumption | exact And.left (by assumption) | exact below_drew1 (by assumption) | exact below_drew1 (Below.refl _ _))).mono ?_); rintro r wq1 ⟨rfl, hbq1⟩) | (go_at_call 23; (with_reducible refine (Ttp.out _ (by first | assumption | exact And.left (by assumption) | exact below_drew1 (by assumption) | exact below_drew1 (Below.refl _ _))).mono ?_); rintro r wq2 ⟨rfl, hbq2⟩) | (go_at_call 21; (with_reducible refine (Ttc.out _ (by first | assumption | exact And.left (by assumption) | exact below_drew1 (by assumption) | exact below_drew1 (Below.refl _ _))).mono ?_); rintro r wq3 ⟨rfl, hbq3⟩))
  replace HBW := Lib.hid hbq3
  clear hbw HKS y0 y7 y8 y9 y12
  obtain ⟨m4, hm⟩ : ∃ m, m = m3 ++ tm ++ tp ++ tc := ⟨_, rfl⟩
  have zm4 : m4.size ≤ 113 := by rw [hm]; simp only [ByteArray.size_append]; omega
  rw [← hm]
  have HM4 := Lib.hid hm
  clear hm
  clear ca4 cb4 cc4 ca5 cb5 cc5 ca6 cb6 cc6
  go_wp2_with fail
  go_loopg [4, 5] (ws.length + 1) (fun gk v4 v5 wr => ∃ i : Nat, i ≤ ws.length ∧ v4 = .string (m4 ++ encs encW (ws.take i)) ∧ v5 = .int .i64 (i : Int) ∧ Aside0 (i + gk = ws.length + 1) ∧ Aside0 (Below w2.heap.size w2 wr))
  case atStart => exact ⟨0, Nat.zero_le _, by rw [List.take_zero, encs, ByteArray.append_empty], rfl, ⟨by omega⟩, ⟨HBW.out⟩⟩
  case round =>
  obtain ⟨i, hi, rfl, rfl, ⟨hg⟩, ⟨hB⟩⟩ := hrel
  have HG := Lib.hid hg
  replace HBW := Lib.hid hB
  clear hg hB
  have y12 : wr.cell? ⟨gb, 12, none⟩ = some (.slice A ws.length c) := (blk_cell ((HBW.out.block _ (lt_at2 HX2.out)).trans HX2.out) 12).trans rfl
  rcases (show i < ws.length ∨ i = ws.length by omega) with hlt | rfl
  · have hsz := encs_size encW 400 (ws.take i) (fun x hx => Hws.out x (List.mem_of_mem_take hx))
    have hel := HwsE.out (ws[i]) (List.getElem_mem hlt)
    have hel4 := Hws.out (ws[i]) (List.getElem_mem hlt)
    obtain ⟨U, hU⟩ : ∃ U, U = m4 ++ encs encW (ws.take i) := ⟨_, rfl⟩
    have hUz : U.size ≤ 6513 := by
      rw [hU, ByteArray.size_append]
      have h1 : (ws.take i).length ≤ 16 := by rw [List.length_take]; omega
      have h2 : (ws.take i).length * 400 ≤ 16 * 400 := Nat.mul_le_mul_right _ h1
      omega
    rw [← hU]
    have HU := Lib.hid hU
    clear hU hsz
    obtain ⟨ad, rfl, k0, k1, k2⟩ := at_T54 (Kd.C_below HCws.out (HB2.out.trans (HBW.out.mono HB2.out.size))) (i : Int) (by omega) (by omega)
    rw [Int.toNat_natCast] at k0 k1 k2
    have HE := Lib.hid (rd_at ws i hlt)
    rw [← HE.out] at hel hel4
    generalize rd_T54 ws (i : Int) = x at *
    have HV := Lib.hid (fun W => wwrite_calls x hel W)
    obtain ⟨t, ht⟩ : ∃ t, t = encW x := ⟨_, rfl⟩
    rw [← ht] at HV hel4
    have HT := Lib.hid ht
    clear ht hel
    obtain ⟨x0, x1, x2⟩ := x
    dsimp only at *
    obtain ⟨ca, cb, cc⟩ := cat3 (show U.size + t.size ≤ 9223372036854775807 by omega)
    go_wp2_with fail
    refine (HV.out _).mono ?_
    rintro r wy ⟨rfl, hb⟩
    have HBY := Lib.hid (HBW.out.trans (hb.mono HBW.out.size))
    clear hb
    have HW : Hid (m4 ++ encs encW (ws.take (i + 1)) = U ++ t) := Lib.hid (by
      rw [encs_take encW ws i hlt, ← HE.out, HU.out, HT.out, ByteArray.append_assoc])
    go_wp2
    go_roundg (gk - 1)
    case measure => have := HG.out; omega
    case rel => exact ⟨i + 1, by omega, by rw [HW.out], by go_num, ⟨by have := HG.out; omega⟩, ⟨HBY.out⟩⟩
  have hsz := encs_size encW 400 ws (fun x hx => Hws.out x hx)
  rw [List.take_length]
  obtain ⟨m5, hm⟩ : ∃ u, u = m4 ++ encs encW ws := ⟨_, rfl⟩
  have zm5 : m5.size ≤ 6513 := by
    rw [hm, ByteArray.size_append]
    have h2 : ws.length * 400 ≤ 16 * 400 := Nat.mul_le_mul_right _ (by omega)
    omega
  rw [← hm]
  have HM5 := Lib.hid hm
  clear hm hsz HG
  have y0 : wr.cell? ⟨gb, 0, none⟩ = some (.int .i64 2) := (blk_cell ((HBW.out.block _ (lt_at2 HX2.out)).trans HX2.out) 0).trans rfl
  have HE : Hid (m5 = encE ⟨2, bc, bn, sp, sl, ap, al, mp, ml, pr, parts, done, ws⟩) := Lib.hid (by
    rw [HM5.out, HM4.out, HM3.out, HM2.out, HM1.out]
    rw [← Etk.out, ← Etb.out, ← Etn.out, ← Ets.out, ← Etm.out, ← Etp.out, ← Etc.out]
    simp [encE, hB, hS, hM, hA, hT, hD, encs, ByteArray.append_assoc])
  go_wp2_with fail
  go_ret2
  exact ⟨by rw [← HE.out]; rfl, HB2.out.trans (HBW.out.mono HB2.out.size)⟩
set_option maxRecDepth 100000 in
set_option maxHeartbeats 16000000 in
theorem rwrite_3 (e : En) (A : Option Addr) (c : Nat) (w : World) (hk : e.k = 3) (hok : EOk e) (hr : rightE e = true) (hin : EnIn w e A c) :
    Calls Try.prog 9 #[.agg #[.int .i64 e.k, .int .u32 e.bc, .int .u32 e.bn, .int .u64 e.sp, .int .u32 e.sl, .int .u64 e.ap, .int .u32 e.al, .int .u64 e.mp, .int .u32 e.ml, .string e.pr, .int .u8 e.parts, .bool e.done, .slice A e.ws.length c]] w fun r w' => r = .returned (.tuple #[.string (encE e), .int .i64 0]) ∧ Below w.heap.size w w' := by
  have HRI := Lib.hid (fun W (hb : Below w.heap.size w W) => (rright_calls e A c W (hin.below hb) hok.ws).mono fun r w' (h : r = .returned (.bool (rightE e)) ∧ Below W.heap.size W w') => (⟨by rw [h.1, hr], h.2⟩ : r = .returned (.bool true) ∧ Below W.heap.size W w'))
  have hl2 : (e.ws.length : Int) ≤ 9223372036854775807 := by have := hok.ws; omega
  obtain ⟨-, -, ⟨g1, g2⟩, ⟨g3, g4⟩, ⟨g5, g6⟩, -⟩ := right_facts e hr
  have hn0 := right_nows e hr (by rw [hk]; rfl)
  obtain ⟨-, ⟨hb1, hb2⟩, ⟨hb3, hb4⟩, ⟨hb5, hb6⟩, ⟨hb7, hb8⟩, ⟨hb9, hb10⟩, ⟨hb11, hb12⟩, ⟨hb13, hb14⟩, ⟨hb15, hb16⟩, ⟨hb17, hb18⟩, -⟩ := hok
  clear hin hr
  obtain ⟨k, bc, bn, sp, sl, ap, al, mp, ml, pr, parts, done, ws⟩ := e
  dsimp only at *
  subst hk
  subst hn0
  go_enter Try.func9, Try.ntmps9
  go_upto_region 0 with (fail)
  go_step
  (with_reducible refine gate_dst (N := 1) rfl ?_)
  refine box_event ?hg (N := 1) ?hd (cs := #[(.int .i64 3), (.int .u32 bc), (.int .u32 bn), (.int .u64 sp), (.int .u32 sl), (.int .u64 ap), (.int .u32 al), (.int .u64 mp), (.int .u32 ml), (.string pr), (.int .u8 parts), (.bool done), (.slice A ([] : List S54).length c)]) (t := 30) ?hr ?_
  case hd => rfl
  case hg => rfl
  case hr => kernel_rfl
  intro gb hgb w1 hbox hbb
  have HB1 := Lib.hid hbb
  have HX1 := Lib.hid hbox
  clear hgb hbox hbb
  go_wp2_with ((with_reducible refine gate_dst (N := 6) rfl ?_); refine wpList_load_row rfl 30 (.tmp 1) rfl gb rfl 30 _ (0, 0) _ HX1.out Try.underlying30 rfl (by kernel_rfl) ?_)
  refine (HRI.out _ HB1.out).mono ?_
  rintro r w2 ⟨rfl, hb⟩
  have HX2 := Lib.hid ((hb.block _ (lt_at2 HX1.out)).trans HX1.out)
  have HB2 := Lib.hid (HB1.out.trans (hb.mono HB1.out.size))
  clear hb HX1 HB1 HRI
  have HBW : Hid (Below w2.heap.size w2 w2) := Lib.hid (Below.refl _ _)
  obtain ⟨tk, etk, ztk, Ttk⟩ := pack (w0 := w2) 9 (bz (3) ⟨by omega, by omega⟩) (fun W => ref_number (3) (by omega) (by omega) W)
  have Etk := Lib.hid etk
  clear etk
  have y0 : w2.cell? ⟨gb, 0, none⟩ = some (.int .i64 3) := (blk_cell ((HBW.out.block _ (lt_at2 HX2.out)).trans HX2.out) 0).trans rfl
  go_wp2_with fail
  refine (Ttk.out _ HBW.out).mono ?_
  rintro r wv1 ⟨rfl, hb⟩
  replace HBW := Lib.hid hb
  clear hb y0
  obtain ⟨m1, hm⟩ : ∃ m, m = tk := ⟨_, rfl⟩
  have zm1 : m1.size ≤ 9 := by rw [hm]; omega
  rw [← hm]
  have HM1 := Lib.hid hm
  clear hm
  obtain ⟨tb, etb, ztb, Ttb⟩ := pack (w0 := w2) 9 (bz (bc) ⟨by omega, by omega⟩) (fun W => ref_numberw (bc) (by omega) (by omega) W)
  have Etb := Lib.hid etb
  clear etb
  obtain ⟨tn, etn, ztn, Ttn⟩ := pack (w0 := w2) 9 (bz (bn) ⟨by omega, by omega⟩) (fun W => ref_numberw (bn) (by omega) (by omega) W)
  have Etn := Lib.hid etn
  clear etn
  obtain ⟨ca1, cb1, cc1⟩ := cat3 (show m1.size + tb.size ≤ 9223372036854775807 by omega)
  obtain ⟨ca2, cb2, cc2⟩ := cat3 (show m1.size + tb.size + tn.size ≤ 9223372036854775807 by omega)
  have HKS : Hid (∀ W, Below w2.heap.size w2 W → Below w2.heap.size w2 W ∧ W.cell? ⟨gb, 0, none⟩ = some (.int .i64 3) ∧ W.cell? ⟨gb, 1, none⟩ = some (.int .u32 bc) ∧ W.cell? ⟨gb, 2, none⟩ = some (.int .u32 bn)) := Lib.hid (fun W hb => by
    have h := (hb.block _ (lt_at2 HX2.out)).trans HX2.out
    exact ⟨hb, (blk_cell h 0).trans rfl, (blk_cell h 1).trans rfl, (blk_cell h 2).trans rfl⟩)
  have hbw := HBW.out
  have y0 : wv1.cell? ⟨gb, 0, none⟩ = some (.int .i64 3) := (blk_cell ((HBW.out.block _ (lt_at2 HX2.out)).trans HX2.out) 0).trans rfl
  have y1 : wv1.cell? ⟨gb, 1, none⟩ = some (.int .u32 bc) := (blk_cell ((HBW.out.block _ (lt_at2 HX2.out)).trans HX2.out) 1).trans rfl
  have y2 : wv1.cell? ⟨gb, 2, none⟩ = some (.int .u32 bn) := (blk_cell ((HBW.out.block _ (lt_at2 HX2.out)).trans HX2.out) 2).trans rfl
  go_wp2_with fail
  go_region_held3 (fun w' => Below w2.heap.size w2 w' ∧ w'.cell? ⟨gb, 0, none⟩ = some (.int .i64 3) ∧ w'.cell? ⟨gb, 1, none⟩ = some (.int .u32 bc) ∧ w'.cell? ⟨gb, 2, none⟩ = some (.int .u32 bn)) (first | exact HKS.out _ (below_drew1 HBW.out) | exact HKS.out _ (by assumption) | go_keep) (first | (go_at_call 21; (with_reducible refine (Ttb.out _ (by first | assumption | exact And.left (by assumption) | exact below_drew1 (by assumption) | exact below_drew1 (Below.refl _ _))).mono ?_); rintro r wp1 ⟨rfl, hbp1⟩) | (go_at_call 21; (with_reducible refine (Ttn.out _ (by first | assumption | exact And.left (by assumption) | exact below_drew1 (by assumption) | exact below_drew1 (Below.refl _ _))).mono ?_); rintro r wp2 ⟨rfl, hbp2⟩))
  replace HBW := Lib.hid hbp2
  clear hbw HKS y0 y1 y2
  obtain ⟨m2, hm⟩ : ∃ m, m = m1 ++ tb ++ tn := ⟨_, rfl⟩
  have zm2 : m2.size ≤ 27 := by rw [hm]; simp only [ByteArray.size_append]; omega
  rw [← hm]
  have HM2 := Lib.hid hm
  clear hm
  clear ca1 cb1 cc1 ca2 cb2 cc2
  obtain ⟨ts, ets, zts, Tts⟩ := pack (w0 := w2) 18 (st_size sp sl ⟨by omega, by omega⟩ ⟨by omega, by omega⟩) (fun W => ref_stamp sp sl ⟨by omega, by omega⟩ ⟨by omega, by omega⟩ W)
  have Ets := Lib.hid ets
  clear ets
  obtain ⟨ca3, cb3, cc3⟩ := cat3 (show m2.size + ts.size ≤ 9223372036854775807 by omega)
  have y0 : wp2.cell? ⟨gb, 0, none⟩ = some (.int .i64 3) := (blk_cell ((HBW.out.block _ (lt_at2 HX2.out)).trans HX2.out) 0).trans rfl
  have y3 : wp2.cell? ⟨gb, 3, none⟩ = some (.int .u64 sp) := (blk_cell ((HBW.out.block _ (lt_at2 HX2.out)).trans HX2.out) 3).trans rfl
  have y4 : wp2.cell? ⟨gb, 4, none⟩ = some (.int .u32 sl) := (blk_cell ((HBW.out.block _ (lt_at2 HX2.out)).trans HX2.out) 4).trans rfl
  go_wp2_with fail
  refine (Tts.out _ HBW.out).mono ?_
  rintro r wv3 ⟨rfl, hb⟩
  replace HBW := Lib.hid hb
  clear hb y0 y3 y4
  have y0 := (blk_cell ((HBW.out.block _ (lt_at2 HX2.out)).trans HX2.out) 0).trans (show _ = some (.int .i64 3) from rfl)
  go_upto_region 17 with (fail)
  obtain ⟨m3, hm⟩ : ∃ m, m = m2 ++ ts := ⟨_, rfl⟩
  have zm3 : m3.size ≤ 45 := by rw [hm]; simp only [ByteArray.size_append]; omega
  rw [← hm]
  have HM3 := Lib.hid hm
  clear hm
  clear ca3 cb3 cc3 y0
  obtain ⟨ta, eta, zta, Tta⟩ := pack (w0 := w2) 18 (st_size ap al ⟨by omega, by omega⟩ ⟨by omega, by omega⟩) (fun W => ref_stamp ap al ⟨by omega, by omega⟩ ⟨by omega, by omega⟩ W)
  have Eta := Lib.hid eta
  clear eta
  obtain ⟨ca4, cb4, cc4⟩ := cat3 (show m3.size + ta.size ≤ 9223372036854775807 by omega)
  have y0 : wv3.cell? ⟨gb, 0, none⟩ = some (.int .i64 3) := (blk_cell ((HBW.out.block _ (lt_at2 HX2.out)).trans HX2.out) 0).trans rfl
  have y5 : wv3.cell? ⟨gb, 5, none⟩ = some (.int .u64 ap) := (blk_cell ((HBW.out.block _ (lt_at2 HX2.out)).trans HX2.out) 5).trans rfl
  have y6 : wv3.cell? ⟨gb, 6, none⟩ = some (.int .u32 al) := (blk_cell ((HBW.out.block _ (lt_at2 HX2.out)).trans HX2.out) 6).trans rfl
  go_wp2_with fail
  refine (Tta.out _ HBW.out).mono ?_
  rintro r wv4 ⟨rfl, hb⟩
  replace HBW := Lib.hid hb
  clear hb y0 y5 y6
  go_upto_region 18 with (fail)
  obtain ⟨m4, hm⟩ : ∃ m, m = m3 ++ ta := ⟨_, rfl⟩
  have zm4 : m4.size ≤ 63 := by rw [hm]; simp only [ByteArray.size_append]; omega
  rw [← hm]
  have HM4 := Lib.hid hm
  clear hm
  clear ca4 cb4 cc4
  have y12 : wv4.cell? ⟨gb, 12, none⟩ = some (.slice A ([] : List S54).length c) := (blk_cell ((HBW.out.block _ (lt_at2 HX2.out)).trans HX2.out) 12).trans rfl
  go_wp2_with fail
  go_loop [4, 5] (fun s i => s = .string m4 ∧ i = .int .i64 0) (fun _ _ => 1)
  case atStart => exact ⟨rfl, rfl⟩
  case round =>
  obtain ⟨rfl, rfl⟩ := hrel
  obtain ⟨tt, ett, ztt, Ttt⟩ := pack (w0 := w2) 9 (bz (parts) ⟨by omega, by omega⟩) (fun W => ref_number (parts) (by omega) (by omega) W)
  have Ett := Lib.hid ett
  clear ett
  obtain ⟨ca5, cb5, cc5⟩ := cat3 (show m4.size + tt.size ≤ 9223372036854775807 by omega)
  have y0 : wv4.cell? ⟨gb, 0, none⟩ = some (.int .i64 3) := (blk_cell ((HBW.out.block _ (lt_at2 HX2.out)).trans HX2.out) 0).trans rfl
  have y10 : wv4.cell? ⟨gb, 10, none⟩ = some (.int .u8 parts) := (blk_cell ((HBW.out.block _ (lt_at2 HX2.out)).trans HX2.out) 10).trans rfl
  go_wp2_with fail
  refine (Ttt.out _ HBW.out).mono ?_
  rintro r wt ⟨rfl, hb⟩
  replace HBW := Lib.hid hb
  clear hb y0 y10
  go_upto_region 24 with (fail)
  obtain ⟨m5, hm⟩ : ∃ m, m = m4 ++ tt := ⟨_, rfl⟩
  have zm5 : m5.size ≤ 72 := by rw [hm]; simp only [ByteArray.size_append]; omega
  rw [← hm]
  have HM5 := Lib.hid hm
  clear hm
  clear ca5 cb5 cc5
  have y0 : wt.cell? ⟨gb, 0, none⟩ = some (.int .i64 3) := (blk_cell ((HBW.out.block _ (lt_at2 HX2.out)).trans HX2.out) 0).trans rfl
  have HE : Hid (m5 = encE ⟨3, bc, bn, sp, sl, ap, al, mp, ml, pr, parts, done, []⟩) := Lib.hid (by
    rw [HM5.out, HM4.out, HM3.out, HM2.out, HM1.out]
    rw [← Etk.out, ← Etb.out, ← Etn.out, ← Ets.out, ← Eta.out, ← Ett.out]
    simp [encE, hB, hS, hM, hA, hT, hD, encs, ByteArray.append_assoc])
  go_wp2_with fail
  go_ret2
  exact ⟨by rw [← HE.out]; rfl, HB2.out.trans (HBW.out.mono HB2.out.size)⟩
set_option maxRecDepth 100000 in
set_option maxHeartbeats 16000000 in
theorem rwrite_4 (e : En) (A : Option Addr) (c : Nat) (w : World) (hk : e.k = 4) (hok : EOk e) (hr : rightE e = true) (hin : EnIn w e A c) :
    Calls Try.prog 9 #[.agg #[.int .i64 e.k, .int .u32 e.bc, .int .u32 e.bn, .int .u64 e.sp, .int .u32 e.sl, .int .u64 e.ap, .int .u32 e.al, .int .u64 e.mp, .int .u32 e.ml, .string e.pr, .int .u8 e.parts, .bool e.done, .slice A e.ws.length c]] w fun r w' => r = .returned (.tuple #[.string (encE e), .int .i64 0]) ∧ Below w.heap.size w w' := by
  have HRI := Lib.hid (fun W (hb : Below w.heap.size w W) => (rright_calls e A c W (hin.below hb) hok.ws).mono fun r w' (h : r = .returned (.bool (rightE e)) ∧ Below W.heap.size W w') => (⟨by rw [h.1, hr], h.2⟩ : r = .returned (.bool true) ∧ Below W.heap.size W w'))
  have hl2 : (e.ws.length : Int) ≤ 9223372036854775807 := by have := hok.ws; omega
  obtain ⟨-, -, ⟨g1, g2⟩, ⟨g3, g4⟩, ⟨g5, g6⟩, -⟩ := right_facts e hr
  have hn0 := right_nows e hr (by rw [hk]; rfl)
  obtain ⟨-, ⟨hb1, hb2⟩, ⟨hb3, hb4⟩, ⟨hb5, hb6⟩, ⟨hb7, hb8⟩, ⟨hb9, hb10⟩, ⟨hb11, hb12⟩, ⟨hb13, hb14⟩, ⟨hb15, hb16⟩, ⟨hb17, hb18⟩, -⟩ := hok
  clear hin hr
  obtain ⟨k, bc, bn, sp, sl, ap, al, mp, ml, pr, parts, done, ws⟩ := e
  dsimp only at *
  subst hk
  subst hn0
  go_enter Try.func9, Try.ntmps9
  go_upto_region 0 with (fail)
  go_step
  (with_reducible refine gate_dst (N := 1) rfl ?_)
  refine box_event ?hg (N := 1) ?hd (cs := #[(.int .i64 4), (.int .u32 bc), (.int .u32 bn), (.int .u64 sp), (.int .u32 sl), (.int .u64 ap), (.int .u32 al), (.int .u64 mp), (.int .u32 ml), (.string pr), (.int .u8 parts), (.bool done), (.slice A ([] : List S54).length c)]) (t := 30) ?hr ?_
  case hd => rfl
  case hg => rfl
  case hr => kernel_rfl
  intro gb hgb w1 hbox hbb
  have HB1 := Lib.hid hbb
  have HX1 := Lib.hid hbox
  clear hgb hbox hbb
  go_wp2_with ((with_reducible refine gate_dst (N := 6) rfl ?_); refine wpList_load_row rfl 30 (.tmp 1) rfl gb rfl 30 _ (0, 0) _ HX1.out Try.underlying30 rfl (by kernel_rfl) ?_)
  refine (HRI.out _ HB1.out).mono ?_
  rintro r w2 ⟨rfl, hb⟩
  have HX2 := Lib.hid ((hb.block _ (lt_at2 HX1.out)).trans HX1.out)
  have HB2 := Lib.hid (HB1.out.trans (hb.mono HB1.out.size))
  clear hb HX1 HB1 HRI
  have HBW : Hid (Below w2.heap.size w2 w2) := Lib.hid (Below.refl _ _)
  obtain ⟨tk, etk, ztk, Ttk⟩ := pack (w0 := w2) 9 (bz (4) ⟨by omega, by omega⟩) (fun W => ref_number (4) (by omega) (by omega) W)
  have Etk := Lib.hid etk
  clear etk
  have y0 : w2.cell? ⟨gb, 0, none⟩ = some (.int .i64 4) := (blk_cell ((HBW.out.block _ (lt_at2 HX2.out)).trans HX2.out) 0).trans rfl
  go_wp2_with fail
  refine (Ttk.out _ HBW.out).mono ?_
  rintro r wv1 ⟨rfl, hb⟩
  replace HBW := Lib.hid hb
  clear hb y0
  obtain ⟨m1, hm⟩ : ∃ m, m = tk := ⟨_, rfl⟩
  have zm1 : m1.size ≤ 9 := by rw [hm]; omega
  rw [← hm]
  have HM1 := Lib.hid hm
  clear hm
  obtain ⟨tb, etb, ztb, Ttb⟩ := pack (w0 := w2) 9 (bz (bc) ⟨by omega, by omega⟩) (fun W => ref_numberw (bc) (by omega) (by omega) W)
  have Etb := Lib.hid etb
  clear etb
  obtain ⟨tn, etn, ztn, Ttn⟩ := pack (w0 := w2) 9 (bz (bn) ⟨by omega, by omega⟩) (fun W => ref_numberw (bn) (by omega) (by omega) W)
  have Etn := Lib.hid etn
  clear etn
  obtain ⟨ca1, cb1, cc1⟩ := cat3 (show m1.size + tb.size ≤ 9223372036854775807 by omega)
  obtain ⟨ca2, cb2, cc2⟩ := cat3 (show m1.size + tb.size + tn.size ≤ 9223372036854775807 by omega)
  have HKS : Hid (∀ W, Below w2.heap.size w2 W → Below w2.heap.size w2 W ∧ W.cell? ⟨gb, 0, none⟩ = some (.int .i64 4) ∧ W.cell? ⟨gb, 1, none⟩ = some (.int .u32 bc) ∧ W.cell? ⟨gb, 2, none⟩ = some (.int .u32 bn)) := Lib.hid (fun W hb => by
    have h := (hb.block _ (lt_at2 HX2.out)).trans HX2.out
    exact ⟨hb, (blk_cell h 0).trans rfl, (blk_cell h 1).trans rfl, (blk_cell h 2).trans rfl⟩)
  have hbw := HBW.out
  have y0 : wv1.cell? ⟨gb, 0, none⟩ = some (.int .i64 4) := (blk_cell ((HBW.out.block _ (lt_at2 HX2.out)).trans HX2.out) 0).trans rfl
  have y1 : wv1.cell? ⟨gb, 1, none⟩ = some (.int .u32 bc) := (blk_cell ((HBW.out.block _ (lt_at2 HX2.out)).trans HX2.out) 1).trans rfl
  have y2 : wv1.cell? ⟨gb, 2, none⟩ = some (.int .u32 bn) := (blk_cell ((HBW.out.block _ (lt_at2 HX2.out)).trans HX2.out) 2).trans rfl
  go_wp2_with fail
  go_region_held3 (fun w' => Below w2.heap.size w2 w' ∧ w'.cell? ⟨gb, 0, none⟩ = some (.int .i64 4) ∧ w'.cell? ⟨gb, 1, none⟩ = some (.int .u32 bc) ∧ w'.cell? ⟨gb, 2, none⟩ = some (.int .u32 bn)) (first | exact HKS.out _ (below_drew1 HBW.out) | exact HKS.out _ (by assumption) | go_keep) (first | (go_at_call 21; (with_reducible refine (Ttb.out _ (by first | assumption | exact And.left (by assumption) | exact below_drew1 (by assumption) | exact below_drew1 (Below.refl _ _))).mono ?_); rintro r wp1 ⟨rfl, hbp1⟩) | (go_at_call 21; (with_reducible refine (Ttn.out _ (by first | assumption | exact And.left (by assumption) | exact below_drew1 (by assumption) | exact below_drew1 (Below.refl _ _))).mono ?_); rintro r wp2 ⟨rfl, hbp2⟩))
  replace HBW := Lib.hid hbp2
  clear hbw HKS y0 y1 y2
  obtain ⟨m2, hm⟩ : ∃ m, m = m1 ++ tb ++ tn := ⟨_, rfl⟩
  have zm2 : m2.size ≤ 27 := by rw [hm]; simp only [ByteArray.size_append]; omega
  rw [← hm]
  have HM2 := Lib.hid hm
  clear hm
  clear ca1 cb1 cc1 ca2 cb2 cc2
  obtain ⟨ta, eta, zta, Tta⟩ := pack (w0 := w2) 18 (st_size ap al ⟨by omega, by omega⟩ ⟨by omega, by omega⟩) (fun W => ref_stamp ap al ⟨by omega, by omega⟩ ⟨by omega, by omega⟩ W)
  have Eta := Lib.hid eta
  clear eta
  obtain ⟨ca3, cb3, cc3⟩ := cat3 (show m2.size + ta.size ≤ 9223372036854775807 by omega)
  have y0 : wp2.cell? ⟨gb, 0, none⟩ = some (.int .i64 4) := (blk_cell ((HBW.out.block _ (lt_at2 HX2.out)).trans HX2.out) 0).trans rfl
  have y5 : wp2.cell? ⟨gb, 5, none⟩ = some (.int .u64 ap) := (blk_cell ((HBW.out.block _ (lt_at2 HX2.out)).trans HX2.out) 5).trans rfl
  have y6 : wp2.cell? ⟨gb, 6, none⟩ = some (.int .u32 al) := (blk_cell ((HBW.out.block _ (lt_at2 HX2.out)).trans HX2.out) 6).trans rfl
  go_wp2_with fail
  refine (Tta.out _ HBW.out).mono ?_
  rintro r wv3 ⟨rfl, hb⟩
  replace HBW := Lib.hid hb
  clear hb y0 y5 y6
  go_upto_region 18 with (fail)
  obtain ⟨m3, hm⟩ : ∃ m, m = m2 ++ ta := ⟨_, rfl⟩
  have zm3 : m3.size ≤ 45 := by rw [hm]; simp only [ByteArray.size_append]; omega
  rw [← hm]
  have HM3 := Lib.hid hm
  clear hm
  clear ca3 cb3 cc3
  have y12 : wv3.cell? ⟨gb, 12, none⟩ = some (.slice A ([] : List S54).length c) := (blk_cell ((HBW.out.block _ (lt_at2 HX2.out)).trans HX2.out) 12).trans rfl
  go_wp2_with fail
  go_loop [4, 5] (fun s i => s = .string m3 ∧ i = .int .i64 0) (fun _ _ => 1)
  case atStart => exact ⟨rfl, rfl⟩
  case round =>
  obtain ⟨rfl, rfl⟩ := hrel
  have y0 : wv3.cell? ⟨gb, 0, none⟩ = some (.int .i64 4) := (blk_cell ((HBW.out.block _ (lt_at2 HX2.out)).trans HX2.out) 0).trans rfl
  have HE : Hid (m3 = encE ⟨4, bc, bn, sp, sl, ap, al, mp, ml, pr, parts, done, []⟩) := Lib.hid (by
    rw [HM3.out, HM2.out, HM1.out]
    rw [← Etk.out, ← Etb.out, ← Etn.out, ← Eta.out]
    simp [encE, hB, hS, hM, hA, hT, hD, encs, ByteArray.append_assoc])
  go_wp2_with fail
  go_ret2
  exact ⟨by rw [← HE.out]; rfl, HB2.out.trans (HBW.out.mono HB2.out.size)⟩
set_option maxRecDepth 100000 in
set_option maxHeartbeats 16000000 in
theorem rwrite_5 (e : En) (A : Option Addr) (c : Nat) (w : World) (hk : e.k = 5) (hok : EOk e) (hr : rightE e = true) (hin : EnIn w e A c) :
    Calls Try.prog 9 #[.agg #[.int .i64 e.k, .int .u32 e.bc, .int .u32 e.bn, .int .u64 e.sp, .int .u32 e.sl, .int .u64 e.ap, .int .u32 e.al, .int .u64 e.mp, .int .u32 e.ml, .string e.pr, .int .u8 e.parts, .bool e.done, .slice A e.ws.length c]] w fun r w' => r = .returned (.tuple #[.string (encE e), .int .i64 0]) ∧ Below w.heap.size w w' := by
  have HRI := Lib.hid (fun W (hb : Below w.heap.size w W) => (rright_calls e A c W (hin.below hb) hok.ws).mono fun r w' (h : r = .returned (.bool (rightE e)) ∧ Below W.heap.size W w') => (⟨by rw [h.1, hr], h.2⟩ : r = .returned (.bool true) ∧ Below W.heap.size W w'))
  have hl2 : (e.ws.length : Int) ≤ 9223372036854775807 := by have := hok.ws; omega
  obtain ⟨-, -, ⟨g1, g2⟩, ⟨g3, g4⟩, ⟨g5, g6⟩, -⟩ := right_facts e hr
  have hn0 := right_nows e hr (by rw [hk]; rfl)
  obtain ⟨-, ⟨hb1, hb2⟩, ⟨hb3, hb4⟩, ⟨hb5, hb6⟩, ⟨hb7, hb8⟩, ⟨hb9, hb10⟩, ⟨hb11, hb12⟩, ⟨hb13, hb14⟩, ⟨hb15, hb16⟩, ⟨hb17, hb18⟩, -⟩ := hok
  clear hin hr
  obtain ⟨k, bc, bn, sp, sl, ap, al, mp, ml, pr, parts, done, ws⟩ := e
  dsimp only at *
  subst hk
  subst hn0
  go_enter Try.func9, Try.ntmps9
  go_upto_region 0 with (fail)
  go_step
  (with_reducible refine gate_dst (N := 1) rfl ?_)
  refine box_event ?hg (N := 1) ?hd (cs := #[(.int .i64 5), (.int .u32 bc), (.int .u32 bn), (.int .u64 sp), (.int .u32 sl), (.int .u64 ap), (.int .u32 al), (.int .u64 mp), (.int .u32 ml), (.string pr), (.int .u8 parts), (.bool done), (.slice A ([] : List S54).length c)]) (t := 30) ?hr ?_
  case hd => rfl
  case hg => rfl
  case hr => kernel_rfl
  intro gb hgb w1 hbox hbb
  have HB1 := Lib.hid hbb
  have HX1 := Lib.hid hbox
  clear hgb hbox hbb
  go_wp2_with ((with_reducible refine gate_dst (N := 6) rfl ?_); refine wpList_load_row rfl 30 (.tmp 1) rfl gb rfl 30 _ (0, 0) _ HX1.out Try.underlying30 rfl (by kernel_rfl) ?_)
  refine (HRI.out _ HB1.out).mono ?_
  rintro r w2 ⟨rfl, hb⟩
  have HX2 := Lib.hid ((hb.block _ (lt_at2 HX1.out)).trans HX1.out)
  have HB2 := Lib.hid (HB1.out.trans (hb.mono HB1.out.size))
  clear hb HX1 HB1 HRI
  have HBW : Hid (Below w2.heap.size w2 w2) := Lib.hid (Below.refl _ _)
  obtain ⟨tk, etk, ztk, Ttk⟩ := pack (w0 := w2) 9 (bz (5) ⟨by omega, by omega⟩) (fun W => ref_number (5) (by omega) (by omega) W)
  have Etk := Lib.hid etk
  clear etk
  have y0 : w2.cell? ⟨gb, 0, none⟩ = some (.int .i64 5) := (blk_cell ((HBW.out.block _ (lt_at2 HX2.out)).trans HX2.out) 0).trans rfl
  go_wp2_with fail
  refine (Ttk.out _ HBW.out).mono ?_
  rintro r wv1 ⟨rfl, hb⟩
  replace HBW := Lib.hid hb
  clear hb y0
  obtain ⟨m1, hm⟩ : ∃ m, m = tk := ⟨_, rfl⟩
  have zm1 : m1.size ≤ 9 := by rw [hm]; omega
  rw [← hm]
  have HM1 := Lib.hid hm
  clear hm
  obtain ⟨tb, etb, ztb, Ttb⟩ := pack (w0 := w2) 9 (bz (bc) ⟨by omega, by omega⟩) (fun W => ref_numberw (bc) (by omega) (by omega) W)
  have Etb := Lib.hid etb
  clear etb
  obtain ⟨tn, etn, ztn, Ttn⟩ := pack (w0 := w2) 9 (bz (bn) ⟨by omega, by omega⟩) (fun W => ref_numberw (bn) (by omega) (by omega) W)
  have Etn := Lib.hid etn
  clear etn
  obtain ⟨ca1, cb1, cc1⟩ := cat3 (show m1.size + tb.size ≤ 9223372036854775807 by omega)
  obtain ⟨ca2, cb2, cc2⟩ := cat3 (show m1.size + tb.size + tn.size ≤ 9223372036854775807 by omega)
  have HKS : Hid (∀ W, Below w2.heap.size w2 W → Below w2.heap.size w2 W ∧ W.cell? ⟨gb, 0, none⟩ = some (.int .i64 5) ∧ W.cell? ⟨gb, 1, none⟩ = some (.int .u32 bc) ∧ W.cell? ⟨gb, 2, none⟩ = some (.int .u32 bn)) := Lib.hid (fun W hb => by
    have h := (hb.block _ (lt_at2 HX2.out)).trans HX2.out
    exact ⟨hb, (blk_cell h 0).trans rfl, (blk_cell h 1).trans rfl, (blk_cell h 2).trans rfl⟩)
  have hbw := HBW.out
  have y0 : wv1.cell? ⟨gb, 0, none⟩ = some (.int .i64 5) := (blk_cell ((HBW.out.block _ (lt_at2 HX2.out)).trans HX2.out) 0).trans rfl
  have y1 : wv1.cell? ⟨gb, 1, none⟩ = some (.int .u32 bc) := (blk_cell ((HBW.out.block _ (lt_at2 HX2.out)).trans HX2.out) 1).trans rfl
  have y2 : wv1.cell? ⟨gb, 2, none⟩ = some (.int .u32 bn) := (blk_cell ((HBW.out.block _ (lt_at2 HX2.out)).trans HX2.out) 2).trans rfl
  go_wp2_with fail
  go_region_held3 (fun w' => Below w2.heap.size w2 w' ∧ w'.cell? ⟨gb, 0, none⟩ = some (.int .i64 5) ∧ w'.cell? ⟨gb, 1, none⟩ = some (.int .u32 bc) ∧ w'.cell? ⟨gb, 2, none⟩ = some (.int .u32 bn)) (first | exact HKS.out _ (below_drew1 HBW.out) | exact HKS.out _ (by assumption) | go_keep) (first | (go_at_call 21; (with_reducible refine (Ttb.out _ (by first | assumption | exact And.left (by assumption) | exact below_drew1 (by assumption) | exact below_drew1 (Below.refl _ _))).mono ?_); rintro r wp1 ⟨rfl, hbp1⟩) | (go_at_call 21; (with_reducible refine (Ttn.out _ (by first | assumption | exact And.left (by assumption) | exact below_drew1 (by assumption) | exact below_drew1 (Below.refl _ _))).mono ?_); rintro r wp2 ⟨rfl, hbp2⟩))
  replace HBW := Lib.hid hbp2
  clear hbw HKS y0 y1 y2
  obtain ⟨m2, hm⟩ : ∃ m, m = m1 ++ tb ++ tn := ⟨_, rfl⟩
  have zm2 : m2.size ≤ 27 := by rw [hm]; simp only [ByteArray.size_append]; omega
  rw [← hm]
  have HM2 := Lib.hid hm
  clear hm
  clear ca1 cb1 cc1 ca2 cb2 cc2
  obtain ⟨ts, ets, zts, Tts⟩ := pack (w0 := w2) 18 (st_size sp sl ⟨by omega, by omega⟩ ⟨by omega, by omega⟩) (fun W => ref_stamp sp sl ⟨by omega, by omega⟩ ⟨by omega, by omega⟩ W)
  have Ets := Lib.hid ets
  clear ets
  obtain ⟨ca3, cb3, cc3⟩ := cat3 (show m2.size + ts.size ≤ 9223372036854775807 by omega)
  have y0 : wp2.cell? ⟨gb, 0, none⟩ = some (.int .i64 5) := (blk_cell ((HBW.out.block _ (lt_at2 HX2.out)).trans HX2.out) 0).trans rfl
  have y3 : wp2.cell? ⟨gb, 3, none⟩ = some (.int .u64 sp) := (blk_cell ((HBW.out.block _ (lt_at2 HX2.out)).trans HX2.out) 3).trans rfl
  have y4 : wp2.cell? ⟨gb, 4, none⟩ = some (.int .u32 sl) := (blk_cell ((HBW.out.block _ (lt_at2 HX2.out)).trans HX2.out) 4).trans rfl
  go_wp2_with fail
  refine (Tts.out _ HBW.out).mono ?_
  rintro r wv3 ⟨rfl, hb⟩
  replace HBW := Lib.hid hb
  clear hb y0 y3 y4
  have y0 := (blk_cell ((HBW.out.block _ (lt_at2 HX2.out)).trans HX2.out) 0).trans (show _ = some (.int .i64 5) from rfl)
  go_upto_region 18 with (fail)
  obtain ⟨m3, hm⟩ : ∃ m, m = m2 ++ ts := ⟨_, rfl⟩
  have zm3 : m3.size ≤ 45 := by rw [hm]; simp only [ByteArray.size_append]; omega
  rw [← hm]
  have HM3 := Lib.hid hm
  clear hm
  clear ca3 cb3 cc3 y0
  have y12 : wv3.cell? ⟨gb, 12, none⟩ = some (.slice A ([] : List S54).length c) := (blk_cell ((HBW.out.block _ (lt_at2 HX2.out)).trans HX2.out) 12).trans rfl
  go_wp2_with fail
  go_loop [4, 5] (fun s i => s = .string m3 ∧ i = .int .i64 0) (fun _ _ => 1)
  case atStart => exact ⟨rfl, rfl⟩
  case round =>
  obtain ⟨rfl, rfl⟩ := hrel
  have y0 : wv3.cell? ⟨gb, 0, none⟩ = some (.int .i64 5) := (blk_cell ((HBW.out.block _ (lt_at2 HX2.out)).trans HX2.out) 0).trans rfl
  have HE : Hid (m3 = encE ⟨5, bc, bn, sp, sl, ap, al, mp, ml, pr, parts, done, []⟩) := Lib.hid (by
    rw [HM3.out, HM2.out, HM1.out]
    rw [← Etk.out, ← Etb.out, ← Etn.out, ← Ets.out]
    simp [encE, hB, hS, hM, hA, hT, hD, encs, ByteArray.append_assoc])
  go_wp2_with fail
  go_ret2
  exact ⟨by rw [← HE.out]; rfl, HB2.out.trans (HBW.out.mono HB2.out.size)⟩
set_option maxRecDepth 100000 in
set_option maxHeartbeats 16000000 in
theorem rwrite_6 (e : En) (A : Option Addr) (c : Nat) (w : World) (hk : e.k = 6) (hok : EOk e) (hr : rightE e = true) (hin : EnIn w e A c) :
    Calls Try.prog 9 #[.agg #[.int .i64 e.k, .int .u32 e.bc, .int .u32 e.bn, .int .u64 e.sp, .int .u32 e.sl, .int .u64 e.ap, .int .u32 e.al, .int .u64 e.mp, .int .u32 e.ml, .string e.pr, .int .u8 e.parts, .bool e.done, .slice A e.ws.length c]] w fun r w' => r = .returned (.tuple #[.string (encE e), .int .i64 0]) ∧ Below w.heap.size w w' := by
  have HRI := Lib.hid (fun W (hb : Below w.heap.size w W) => (rright_calls e A c W (hin.below hb) hok.ws).mono fun r w' (h : r = .returned (.bool (rightE e)) ∧ Below W.heap.size W w') => (⟨by rw [h.1, hr], h.2⟩ : r = .returned (.bool true) ∧ Below W.heap.size W w'))
  have hl2 : (e.ws.length : Int) ≤ 9223372036854775807 := by have := hok.ws; omega
  obtain ⟨-, -, ⟨g1, g2⟩, ⟨g3, g4⟩, ⟨g5, g6⟩, -⟩ := right_facts e hr
  have hn0 := right_nows e hr (by rw [hk]; rfl)
  obtain ⟨-, ⟨hb1, hb2⟩, ⟨hb3, hb4⟩, ⟨hb5, hb6⟩, ⟨hb7, hb8⟩, ⟨hb9, hb10⟩, ⟨hb11, hb12⟩, ⟨hb13, hb14⟩, ⟨hb15, hb16⟩, ⟨hb17, hb18⟩, -⟩ := hok
  clear hin hr
  obtain ⟨k, bc, bn, sp, sl, ap, al, mp, ml, pr, parts, done, ws⟩ := e
  dsimp only at *
  subst hk
  subst hn0
  go_enter Try.func9, Try.ntmps9
  go_upto_region 0 with (fail)
  go_step
  (with_reducible refine gate_dst (N := 1) rfl ?_)
  refine box_event ?hg (N := 1) ?hd (cs := #[(.int .i64 6), (.int .u32 bc), (.int .u32 bn), (.int .u64 sp), (.int .u32 sl), (.int .u64 ap), (.int .u32 al), (.int .u64 mp), (.int .u32 ml), (.string pr), (.int .u8 parts), (.bool done), (.slice A ([] : List S54).length c)]) (t := 30) ?hr ?_
  case hd => rfl
  case hg => rfl
  case hr => kernel_rfl
  intro gb hgb w1 hbox hbb
  have HB1 := Lib.hid hbb
  have HX1 := Lib.hid hbox
  clear hgb hbox hbb
  go_wp2_with ((with_reducible refine gate_dst (N := 6) rfl ?_); refine wpList_load_row rfl 30 (.tmp 1) rfl gb rfl 30 _ (0, 0) _ HX1.out Try.underlying30 rfl (by kernel_rfl) ?_)
  refine (HRI.out _ HB1.out).mono ?_
  rintro r w2 ⟨rfl, hb⟩
  have HX2 := Lib.hid ((hb.block _ (lt_at2 HX1.out)).trans HX1.out)
  have HB2 := Lib.hid (HB1.out.trans (hb.mono HB1.out.size))
  clear hb HX1 HB1 HRI
  have HBW : Hid (Below w2.heap.size w2 w2) := Lib.hid (Below.refl _ _)
  obtain ⟨tk, etk, ztk, Ttk⟩ := pack (w0 := w2) 9 (bz (6) ⟨by omega, by omega⟩) (fun W => ref_number (6) (by omega) (by omega) W)
  have Etk := Lib.hid etk
  clear etk
  have y0 : w2.cell? ⟨gb, 0, none⟩ = some (.int .i64 6) := (blk_cell ((HBW.out.block _ (lt_at2 HX2.out)).trans HX2.out) 0).trans rfl
  go_wp2_with fail
  refine (Ttk.out _ HBW.out).mono ?_
  rintro r wv1 ⟨rfl, hb⟩
  replace HBW := Lib.hid hb
  clear hb y0
  obtain ⟨m1, hm⟩ : ∃ m, m = tk := ⟨_, rfl⟩
  have zm1 : m1.size ≤ 9 := by rw [hm]; omega
  rw [← hm]
  have HM1 := Lib.hid hm
  clear hm
  obtain ⟨ta, eta, zta, Tta⟩ := pack (w0 := w2) 18 (st_size ap al ⟨by omega, by omega⟩ ⟨by omega, by omega⟩) (fun W => ref_stamp ap al ⟨by omega, by omega⟩ ⟨by omega, by omega⟩ W)
  have Eta := Lib.hid eta
  clear eta
  obtain ⟨ca1, cb1, cc1⟩ := cat3 (show m1.size + ta.size ≤ 9223372036854775807 by omega)
  have y0 : wv1.cell? ⟨gb, 0, none⟩ = some (.int .i64 6) := (blk_cell ((HBW.out.block _ (lt_at2 HX2.out)).trans HX2.out) 0).trans rfl
  have y5 : wv1.cell? ⟨gb, 5, none⟩ = some (.int .u64 ap) := (blk_cell ((HBW.out.block _ (lt_at2 HX2.out)).trans HX2.out) 5).trans rfl
  have y6 : wv1.cell? ⟨gb, 6, none⟩ = some (.int .u32 al) := (blk_cell ((HBW.out.block _ (lt_at2 HX2.out)).trans HX2.out) 6).trans rfl
  go_wp2_with fail
  refine (Tta.out _ HBW.out).mono ?_
  rintro r wv2 ⟨rfl, hb⟩
  replace HBW := Lib.hid hb
  clear hb y0 y5 y6
  go_upto_region 18 with (fail)
  obtain ⟨m2, hm⟩ : ∃ m, m = m1 ++ ta := ⟨_, rfl⟩
  have zm2 : m2.size ≤ 27 := by rw [hm]; simp only [ByteArray.size_append]; omega
  rw [← hm]
  have HM2 := Lib.hid hm
  clear hm
  clear ca1 cb1 cc1
  have y12 : wv2.cell? ⟨gb, 12, none⟩ = some (.slice A ([] : List S54).length c) := (blk_cell ((HBW.out.block _ (lt_at2 HX2.out)).trans HX2.out) 12).trans rfl
  go_wp2_with fail
  go_loop [4, 5] (fun s i => s = .string m2 ∧ i = .int .i64 0) (fun _ _ => 1)
  case atStart => exact ⟨rfl, rfl⟩
  case round =>
  obtain ⟨rfl, rfl⟩ := hrel
  have y0 : wv2.cell? ⟨gb, 0, none⟩ = some (.int .i64 6) := (blk_cell ((HBW.out.block _ (lt_at2 HX2.out)).trans HX2.out) 0).trans rfl
  have HE : Hid (m2 = encE ⟨6, bc, bn, sp, sl, ap, al, mp, ml, pr, parts, done, []⟩) := Lib.hid (by
    rw [HM2.out, HM1.out]
    rw [← Etk.out, ← Eta.out]
    simp [encE, hB, hS, hM, hA, hT, hD, encs, ByteArray.append_assoc])
  go_wp2_with fail
  go_ret2
  exact ⟨by rw [← HE.out]; rfl, HB2.out.trans (HBW.out.mono HB2.out.size)⟩
set_option maxRecDepth 100000 in
set_option maxHeartbeats 16000000 in
theorem rwrite_7 (e : En) (A : Option Addr) (c : Nat) (w : World) (hk : e.k = 7) (hok : EOk e) (hr : rightE e = true) (hin : EnIn w e A c) :
    Calls Try.prog 9 #[.agg #[.int .i64 e.k, .int .u32 e.bc, .int .u32 e.bn, .int .u64 e.sp, .int .u32 e.sl, .int .u64 e.ap, .int .u32 e.al, .int .u64 e.mp, .int .u32 e.ml, .string e.pr, .int .u8 e.parts, .bool e.done, .slice A e.ws.length c]] w fun r w' => r = .returned (.tuple #[.string (encE e), .int .i64 0]) ∧ Below w.heap.size w w' := by
  have HRI := Lib.hid (fun W (hb : Below w.heap.size w W) => (rright_calls e A c W (hin.below hb) hok.ws).mono fun r w' (h : r = .returned (.bool (rightE e)) ∧ Below W.heap.size W w') => (⟨by rw [h.1, hr], h.2⟩ : r = .returned (.bool true) ∧ Below W.heap.size W w'))
  have hl2 : (e.ws.length : Int) ≤ 9223372036854775807 := by have := hok.ws; omega
  obtain ⟨-, -, ⟨g1, g2⟩, ⟨g3, g4⟩, ⟨g5, g6⟩, -⟩ := right_facts e hr
  have hn0 := right_nows e hr (by rw [hk]; rfl)
  obtain ⟨-, ⟨hb1, hb2⟩, ⟨hb3, hb4⟩, ⟨hb5, hb6⟩, ⟨hb7, hb8⟩, ⟨hb9, hb10⟩, ⟨hb11, hb12⟩, ⟨hb13, hb14⟩, ⟨hb15, hb16⟩, ⟨hb17, hb18⟩, -⟩ := hok
  clear hin hr
  obtain ⟨k, bc, bn, sp, sl, ap, al, mp, ml, pr, parts, done, ws⟩ := e
  dsimp only at *
  subst hk
  subst hn0
  go_enter Try.func9, Try.ntmps9
  go_upto_region 0 with (fail)
  go_step
  (with_reducible refine gate_dst (N := 1) rfl ?_)
  refine box_event ?hg (N := 1) ?hd (cs := #[(.int .i64 7), (.int .u32 bc), (.int .u32 bn), (.int .u64 sp), (.int .u32 sl), (.int .u64 ap), (.int .u32 al), (.int .u64 mp), (.int .u32 ml), (.string pr), (.int .u8 parts), (.bool done), (.slice A ([] : List S54).length c)]) (t := 30) ?hr ?_
  case hd => rfl
  case hg => rfl
  case hr => kernel_rfl
  intro gb hgb w1 hbox hbb
  have HB1 := Lib.hid hbb
  have HX1 := Lib.hid hbox
  clear hgb hbox hbb
  go_wp2_with ((with_reducible refine gate_dst (N := 6) rfl ?_); refine wpList_load_row rfl 30 (.tmp 1) rfl gb rfl 30 _ (0, 0) _ HX1.out Try.underlying30 rfl (by kernel_rfl) ?_)
  refine (HRI.out _ HB1.out).mono ?_
  rintro r w2 ⟨rfl, hb⟩
  have HX2 := Lib.hid ((hb.block _ (lt_at2 HX1.out)).trans HX1.out)
  have HB2 := Lib.hid (HB1.out.trans (hb.mono HB1.out.size))
  clear hb HX1 HB1 HRI
  have HBW : Hid (Below w2.heap.size w2 w2) := Lib.hid (Below.refl _ _)
  obtain ⟨tk, etk, ztk, Ttk⟩ := pack (w0 := w2) 9 (bz (7) ⟨by omega, by omega⟩) (fun W => ref_number (7) (by omega) (by omega) W)
  have Etk := Lib.hid etk
  clear etk
  have y0 : w2.cell? ⟨gb, 0, none⟩ = some (.int .i64 7) := (blk_cell ((HBW.out.block _ (lt_at2 HX2.out)).trans HX2.out) 0).trans rfl
  go_wp2_with fail
  refine (Ttk.out _ HBW.out).mono ?_
  rintro r wv1 ⟨rfl, hb⟩
  replace HBW := Lib.hid hb
  clear hb y0
  obtain ⟨m1, hm⟩ : ∃ m, m = tk := ⟨_, rfl⟩
  have zm1 : m1.size ≤ 9 := by rw [hm]; omega
  rw [← hm]
  have HM1 := Lib.hid hm
  clear hm
  obtain ⟨tb, etb, ztb, Ttb⟩ := pack (w0 := w2) 9 (bz (bc) ⟨by omega, by omega⟩) (fun W => ref_numberw (bc) (by omega) (by omega) W)
  have Etb := Lib.hid etb
  clear etb
  obtain ⟨tn, etn, ztn, Ttn⟩ := pack (w0 := w2) 9 (bz (bn) ⟨by omega, by omega⟩) (fun W => ref_numberw (bn) (by omega) (by omega) W)
  have Etn := Lib.hid etn
  clear etn
  obtain ⟨ca1, cb1, cc1⟩ := cat3 (show m1.size + tb.size ≤ 9223372036854775807 by omega)
  obtain ⟨ca2, cb2, cc2⟩ := cat3 (show m1.size + tb.size + tn.size ≤ 9223372036854775807 by omega)
  have HKS : Hid (∀ W, Below w2.heap.size w2 W → Below w2.heap.size w2 W ∧ W.cell? ⟨gb, 0, none⟩ = some (.int .i64 7) ∧ W.cell? ⟨gb, 1, none⟩ = some (.int .u32 bc) ∧ W.cell? ⟨gb, 2, none⟩ = some (.int .u32 bn)) := Lib.hid (fun W hb => by
    have h := (hb.block _ (lt_at2 HX2.out)).trans HX2.out
    exact ⟨hb, (blk_cell h 0).trans rfl, (blk_cell h 1).trans rfl, (blk_cell h 2).trans rfl⟩)
  have hbw := HBW.out
  have y0 : wv1.cell? ⟨gb, 0, none⟩ = some (.int .i64 7) := (blk_cell ((HBW.out.block _ (lt_at2 HX2.out)).trans HX2.out) 0).trans rfl
  have y1 : wv1.cell? ⟨gb, 1, none⟩ = some (.int .u32 bc) := (blk_cell ((HBW.out.block _ (lt_at2 HX2.out)).trans HX2.out) 1).trans rfl
  have y2 : wv1.cell? ⟨gb, 2, none⟩ = some (.int .u32 bn) := (blk_cell ((HBW.out.block _ (lt_at2 HX2.out)).trans HX2.out) 2).trans rfl
  go_wp2_with fail
  go_region_held3 (fun w' => Below w2.heap.size w2 w' ∧ w'.cell? ⟨gb, 0, none⟩ = some (.int .i64 7) ∧ w'.cell? ⟨gb, 1, none⟩ = some (.int .u32 bc) ∧ w'.cell? ⟨gb, 2, none⟩ = some (.int .u32 bn)) (first | exact HKS.out _ (below_drew1 HBW.out) | exact HKS.out _ (by assumption) | go_keep) (first | (go_at_call 21; (with_reducible refine (Ttb.out _ (by first | assumption | exact And.left (by assumption) | exact below_drew1 (by assumption) | exact below_drew1 (Below.refl _ _))).mono ?_); rintro r wp1 ⟨rfl, hbp1⟩) | (go_at_call 21; (with_reducible refine (Ttn.out _ (by first | assumption | exact And.left (by assumption) | exact below_drew1 (by assumption) | exact below_drew1 (Below.refl _ _))).mono ?_); rintro r wp2 ⟨rfl, hbp2⟩))
  replace HBW := Lib.hid hbp2
  clear hbw HKS y0 y1 y2
  obtain ⟨m2, hm⟩ : ∃ m, m = m1 ++ tb ++ tn := ⟨_, rfl⟩
  have zm2 : m2.size ≤ 27 := by rw [hm]; simp only [ByteArray.size_append]; omega
  rw [← hm]
  have HM2 := Lib.hid hm
  clear hm
  clear ca1 cb1 cc1 ca2 cb2 cc2
  have y0 : wp2.cell? ⟨gb, 0, none⟩ = some (.int .i64 7) := (blk_cell ((HBW.out.block _ (lt_at2 HX2.out)).trans HX2.out) 0).trans rfl
  go_upto_region 18 with (fail)
  clear y0
  have y12 : wp2.cell? ⟨gb, 12, none⟩ = some (.slice A ([] : List S54).length c) := (blk_cell ((HBW.out.block _ (lt_at2 HX2.out)).trans HX2.out) 12).trans rfl
  go_wp2_with fail
  go_loop [4, 5] (fun s i => s = .string m2 ∧ i = .int .i64 0) (fun _ _ => 1)
  case atStart => exact ⟨rfl, rfl⟩
  case round =>
  obtain ⟨rfl, rfl⟩ := hrel
  have y0 : wp2.cell? ⟨gb, 0, none⟩ = some (.int .i64 7) := (blk_cell ((HBW.out.block _ (lt_at2 HX2.out)).trans HX2.out) 0).trans rfl
  have HE : Hid (m2 = encE ⟨7, bc, bn, sp, sl, ap, al, mp, ml, pr, parts, done, []⟩) := Lib.hid (by
    rw [HM2.out, HM1.out]
    rw [← Etk.out, ← Etb.out, ← Etn.out]
    simp [encE, hB, hS, hM, hA, hT, hD, encs, ByteArray.append_assoc])
  go_wp2_with fail
  go_ret2
  exact ⟨by rw [← HE.out]; rfl, HB2.out.trans (HBW.out.mono HB2.out.size)⟩
set_option maxRecDepth 100000 in
set_option maxHeartbeats 16000000 in
theorem rwrite_8 (e : En) (A : Option Addr) (c : Nat) (w : World) (hk : e.k = 8) (hok : EOk e) (hr : rightE e = true) (hin : EnIn w e A c) :
    Calls Try.prog 9 #[.agg #[.int .i64 e.k, .int .u32 e.bc, .int .u32 e.bn, .int .u64 e.sp, .int .u32 e.sl, .int .u64 e.ap, .int .u32 e.al, .int .u64 e.mp, .int .u32 e.ml, .string e.pr, .int .u8 e.parts, .bool e.done, .slice A e.ws.length c]] w fun r w' => r = .returned (.tuple #[.string (encE e), .int .i64 0]) ∧ Below w.heap.size w w' := by
  have HRI := Lib.hid (fun W (hb : Below w.heap.size w W) => (rright_calls e A c W (hin.below hb) hok.ws).mono fun r w' (h : r = .returned (.bool (rightE e)) ∧ Below W.heap.size W w') => (⟨by rw [h.1, hr], h.2⟩ : r = .returned (.bool true) ∧ Below W.heap.size W w'))
  have hl2 : (e.ws.length : Int) ≤ 9223372036854775807 := by have := hok.ws; omega
  obtain ⟨-, -, ⟨g1, g2⟩, ⟨g3, g4⟩, ⟨g5, g6⟩, -⟩ := right_facts e hr
  obtain ⟨hws, hall⟩ := right_ws e hr
  have HwsE : Hid (∀ x ∈ e.ws, x.f0.size ≤ 32 ∧ x.f1.size ≤ 256) := Lib.hid (fun x hx => ⟨(hall x hx).1.2, (hall x hx).2⟩)
  have Hws : Hid (∀ x ∈ e.ws, (encW x).size ≤ 400) := Lib.hid (fun x hx => encW_size x (HwsE.out x hx))
  clear hall
  have HCws := Lib.hid hin.h
  obtain ⟨-, ⟨hb1, hb2⟩, ⟨hb3, hb4⟩, ⟨hb5, hb6⟩, ⟨hb7, hb8⟩, ⟨hb9, hb10⟩, ⟨hb11, hb12⟩, ⟨hb13, hb14⟩, ⟨hb15, hb16⟩, ⟨hb17, hb18⟩, -⟩ := hok
  clear hin hr
  obtain ⟨k, bc, bn, sp, sl, ap, al, mp, ml, pr, parts, done, ws⟩ := e
  dsimp only at *
  subst hk
  go_enter Try.func9, Try.ntmps9
  go_upto_region 0 with (fail)
  go_step
  (with_reducible refine gate_dst (N := 1) rfl ?_)
  refine box_event ?hg (N := 1) ?hd (cs := #[(.int .i64 8), (.int .u32 bc), (.int .u32 bn), (.int .u64 sp), (.int .u32 sl), (.int .u64 ap), (.int .u32 al), (.int .u64 mp), (.int .u32 ml), (.string pr), (.int .u8 parts), (.bool done), (.slice A ws.length c)]) (t := 30) ?hr ?_
  case hd => rfl
  case hg => rfl
  case hr => kernel_rfl
  intro gb hgb w1 hbox hbb
  have HB1 := Lib.hid hbb
  have HX1 := Lib.hid hbox
  clear hgb hbox hbb
  go_wp2_with ((with_reducible refine gate_dst (N := 6) rfl ?_); refine wpList_load_row rfl 30 (.tmp 1) rfl gb rfl 30 _ (0, 0) _ HX1.out Try.underlying30 rfl (by kernel_rfl) ?_)
  refine (HRI.out _ HB1.out).mono ?_
  rintro r w2 ⟨rfl, hb⟩
  have HX2 := Lib.hid ((hb.block _ (lt_at2 HX1.out)).trans HX1.out)
  have HB2 := Lib.hid (HB1.out.trans (hb.mono HB1.out.size))
  clear hb HX1 HB1 HRI
  have HBW : Hid (Below w2.heap.size w2 w2) := Lib.hid (Below.refl _ _)
  obtain ⟨tk, etk, ztk, Ttk⟩ := pack (w0 := w2) 9 (bz (8) ⟨by omega, by omega⟩) (fun W => ref_number (8) (by omega) (by omega) W)
  have Etk := Lib.hid etk
  clear etk
  have y0 : w2.cell? ⟨gb, 0, none⟩ = some (.int .i64 8) := (blk_cell ((HBW.out.block _ (lt_at2 HX2.out)).trans HX2.out) 0).trans rfl
  go_wp2_with fail
  refine (Ttk.out _ HBW.out).mono ?_
  rintro r wv1 ⟨rfl, hb⟩
  replace HBW := Lib.hid hb
  clear hb y0
  obtain ⟨m1, hm⟩ : ∃ m, m = tk := ⟨_, rfl⟩
  have zm1 : m1.size ≤ 9 := by rw [hm]; omega
  rw [← hm]
  have HM1 := Lib.hid hm
  clear hm
  obtain ⟨tb, etb, ztb, Ttb⟩ := pack (w0 := w2) 9 (bz (bc) ⟨by omega, by omega⟩) (fun W => ref_numberw (bc) (by omega) (by omega) W)
  have Etb := Lib.hid etb
  clear etb
  obtain ⟨tn, etn, ztn, Ttn⟩ := pack (w0 := w2) 9 (bz (bn) ⟨by omega, by omega⟩) (fun W => ref_numberw (bn) (by omega) (by omega) W)
  have Etn := Lib.hid etn
  clear etn
  obtain ⟨ca1, cb1, cc1⟩ := cat3 (show m1.size + tb.size ≤ 9223372036854775807 by omega)
  obtain ⟨ca2, cb2, cc2⟩ := cat3 (show m1.size + tb.size + tn.size ≤ 9223372036854775807 by omega)
  have HKS : Hid (∀ W, Below w2.heap.size w2 W → Below w2.heap.size w2 W ∧ W.cell? ⟨gb, 0, none⟩ = some (.int .i64 8) ∧ W.cell? ⟨gb, 1, none⟩ = some (.int .u32 bc) ∧ W.cell? ⟨gb, 2, none⟩ = some (.int .u32 bn)) := Lib.hid (fun W hb => by
    have h := (hb.block _ (lt_at2 HX2.out)).trans HX2.out
    exact ⟨hb, (blk_cell h 0).trans rfl, (blk_cell h 1).trans rfl, (blk_cell h 2).trans rfl⟩)
  have hbw := HBW.out
  have y0 : wv1.cell? ⟨gb, 0, none⟩ = some (.int .i64 8) := (blk_cell ((HBW.out.block _ (lt_at2 HX2.out)).trans HX2.out) 0).trans rfl
  have y1 : wv1.cell? ⟨gb, 1, none⟩ = some (.int .u32 bc) := (blk_cell ((HBW.out.block _ (lt_at2 HX2.out)).trans HX2.out) 1).trans rfl
  have y2 : wv1.cell? ⟨gb, 2, none⟩ = some (.int .u32 bn) := (blk_cell ((HBW.out.block _ (lt_at2 HX2.out)).trans HX2.out) 2).trans rfl
  go_wp2_with fail
  go_region_held3 (fun w' => Below w2.heap.size w2 w' ∧ w'.cell? ⟨gb, 0, none⟩ = some (.int .i64 8) ∧ w'.cell? ⟨gb, 1, none⟩ = some (.int .u32 bc) ∧ w'.cell? ⟨gb, 2, none⟩ = some (.int .u32 bn)) (first | exact HKS.out _ (below_drew1 HBW.out) | exact HKS.out _ (by assumption) | go_keep) (first | (go_at_call 21; (with_reducible refine (Ttb.out _ (by first | assumption | exact And.left (by assumption) | exact below_drew1 (by assumption) | exact below_drew1 (Below.refl _ _))).mono ?_); rintro r wp1 ⟨rfl, hbp1⟩) | (go_at_call 21; (with_reducible refine (Ttn.out _ (by first | assumption | exact And.left (by assumption) | exact below_drew1 (by assumption) | exact below_drew1 (Below.refl _ _))).mono ?_); rintro r wp2 ⟨rfl, hbp2⟩))
  replace HBW := Lib.hid hbp2
  clear hbw HKS y0 y1 y2
  obtain ⟨m2, hm⟩ : ∃ m, m = m1 ++ tb ++ tn := ⟨_, rfl⟩
  have zm2 : m2.size ≤ 27 := by rw [hm]; simp only [ByteArray.size_append]; omega
  rw [← hm]
  have HM2 := Lib.hid hm
  clear hm
  clear ca1 cb1 cc1 ca2 cb2 cc2
  obtain ⟨ta, eta, zta, Tta⟩ := pack (w0 := w2) 18 (st_size ap al ⟨by omega, by omega⟩ ⟨by omega, by omega⟩) (fun W => ref_stamp ap al ⟨by omega, by omega⟩ ⟨by omega, by omega⟩ W)
  have Eta := Lib.hid eta
  clear eta
  obtain ⟨ca3, cb3, cc3⟩ := cat3 (show m2.size + ta.size ≤ 9223372036854775807 by omega)
  have y0 : wp2.cell? ⟨gb, 0, none⟩ = some (.int .i64 8) := (blk_cell ((HBW.out.block _ (lt_at2 HX2.out)).trans HX2.out) 0).trans rfl
  have y5 : wp2.cell? ⟨gb, 5, none⟩ = some (.int .u64 ap) := (blk_cell ((HBW.out.block _ (lt_at2 HX2.out)).trans HX2.out) 5).trans rfl
  have y6 : wp2.cell? ⟨gb, 6, none⟩ = some (.int .u32 al) := (blk_cell ((HBW.out.block _ (lt_at2 HX2.out)).trans HX2.out) 6).trans rfl
  go_wp2_with fail
  refine (Tta.out _ HBW.out).mono ?_
  rintro r wv3 ⟨rfl, hb⟩
  replace HBW := Lib.hid hb
  clear hb y0 y5 y6
  go_upto_region 18 with (fail)
  obtain ⟨m3, hm⟩ : ∃ m, m = m2 ++ ta := ⟨_, rfl⟩
  have zm3 : m3.size ≤ 45 := by rw [hm]; simp only [ByteArray.size_append]; omega
  rw [← hm]
  have HM3 := Lib.hid hm
  clear hm
  clear ca3 cb3 cc3
  go_wp2_with fail
  go_loopg [4, 5] (ws.length + 1) (fun gk v4 v5 wr => ∃ i : Nat, i ≤ ws.length ∧ v4 = .string (m3 ++ encs encW (ws.take i)) ∧ v5 = .int .i64 (i : Int) ∧ Aside0 (i + gk = ws.length + 1) ∧ Aside0 (Below w2.heap.size w2 wr))
  case atStart => exact ⟨0, Nat.zero_le _, by rw [List.take_zero, encs, ByteArray.append_empty], rfl, ⟨by omega⟩, ⟨HBW.out⟩⟩
  case round =>
  obtain ⟨i, hi, rfl, rfl, ⟨hg⟩, ⟨hB⟩⟩ := hrel
  have HG := Lib.hid hg
  replace HBW := Lib.hid hB
  clear hg hB
  have y12 : wr.cell? ⟨gb, 12, none⟩ = some (.slice A ws.length c) := (blk_cell ((HBW.out.block _ (lt_at2 HX2.out)).trans HX2.out) 12).trans rfl
  rcases (show i < ws.length ∨ i = ws.length by omega) with hlt | rfl
  · have hsz := encs_size encW 400 (ws.take i) (fun x hx => Hws.out x (List.mem_of_mem_take hx))
    have hel := HwsE.out (ws[i]) (List.getElem_mem hlt)
    have hel4 := Hws.out (ws[i]) (List.getElem_mem hlt)
    obtain ⟨U, hU⟩ : ∃ U, U = m3 ++ encs encW (ws.take i) := ⟨_, rfl⟩
    have hUz : U.size ≤ 6445 := by
      rw [hU, ByteArray.size_append]
      have h1 : (ws.take i).length ≤ 16 := by rw [List.length_take]; omega
      have h2 : (ws.take i).length * 400 ≤ 16 * 400 := Nat.mul_le_mul_right _ h1
      omega
    rw [← hU]
    have HU := Lib.hid hU
    clear hU hsz
    obtain ⟨ad, rfl, k0, k1, k2⟩ := at_T54 (Kd.C_below HCws.out (HB2.out.trans (HBW.out.mono HB2.out.size))) (i : Int) (by omega) (by omega)
    rw [Int.toNat_natCast] at k0 k1 k2
    have HE := Lib.hid (rd_at ws i hlt)
    rw [← HE.out] at hel hel4
    generalize rd_T54 ws (i : Int) = x at *
    have HV := Lib.hid (fun W => wwrite_calls x hel W)
    obtain ⟨t, ht⟩ : ∃ t, t = encW x := ⟨_, rfl⟩
    rw [← ht] at HV hel4
    have HT := Lib.hid ht
    clear ht hel
    obtain ⟨x0, x1, x2⟩ := x
    dsimp only at *
    obtain ⟨ca, cb, cc⟩ := cat3 (show U.size + t.size ≤ 9223372036854775807 by omega)
    go_wp2_with fail
    refine (HV.out _).mono ?_
    rintro r wy ⟨rfl, hb⟩
    have HBY := Lib.hid (HBW.out.trans (hb.mono HBW.out.size))
    clear hb
    have HW : Hid (m3 ++ encs encW (ws.take (i + 1)) = U ++ t) := Lib.hid (by
      rw [encs_take encW ws i hlt, ← HE.out, HU.out, HT.out, ByteArray.append_assoc])
    go_wp2
    go_roundg (gk - 1)
    case measure => have := HG.out; omega
    case rel => exact ⟨i + 1, by omega, by rw [HW.out], by go_num, ⟨by have := HG.out; omega⟩, ⟨HBY.out⟩⟩
  have hsz := encs_size encW 400 ws (fun x hx => Hws.out x hx)
  rw [List.take_length]
  obtain ⟨m4, hm⟩ : ∃ u, u = m3 ++ encs encW ws := ⟨_, rfl⟩
  have zm4 : m4.size ≤ 6445 := by
    rw [hm, ByteArray.size_append]
    have h2 : ws.length * 400 ≤ 16 * 400 := Nat.mul_le_mul_right _ (by omega)
    omega
  rw [← hm]
  have HM4 := Lib.hid hm
  clear hm hsz HG
  have y0 : wr.cell? ⟨gb, 0, none⟩ = some (.int .i64 8) := (blk_cell ((HBW.out.block _ (lt_at2 HX2.out)).trans HX2.out) 0).trans rfl
  have HE : Hid (m4 = encE ⟨8, bc, bn, sp, sl, ap, al, mp, ml, pr, parts, done, ws⟩) := Lib.hid (by
    rw [HM4.out, HM3.out, HM2.out, HM1.out]
    rw [← Etk.out, ← Etb.out, ← Etn.out, ← Eta.out]
    simp [encE, hB, hS, hM, hA, hT, hD, encs, ByteArray.append_assoc])
  go_wp2_with fail
  go_ret2
  exact ⟨by rw [← HE.out]; rfl, HB2.out.trans (HBW.out.mono HB2.out.size)⟩
set_option maxRecDepth 100000 in
set_option maxHeartbeats 16000000 in
theorem rwrite_9 (e : En) (A : Option Addr) (c : Nat) (w : World) (hk : e.k = 9) (hok : EOk e) (hr : rightE e = true) (hin : EnIn w e A c) :
    Calls Try.prog 9 #[.agg #[.int .i64 e.k, .int .u32 e.bc, .int .u32 e.bn, .int .u64 e.sp, .int .u32 e.sl, .int .u64 e.ap, .int .u32 e.al, .int .u64 e.mp, .int .u32 e.ml, .string e.pr, .int .u8 e.parts, .bool e.done, .slice A e.ws.length c]] w fun r w' => r = .returned (.tuple #[.string (encE e), .int .i64 0]) ∧ Below w.heap.size w w' := by
  have HRI := Lib.hid (fun W (hb : Below w.heap.size w W) => (rright_calls e A c W (hin.below hb) hok.ws).mono fun r w' (h : r = .returned (.bool (rightE e)) ∧ Below W.heap.size W w') => (⟨by rw [h.1, hr], h.2⟩ : r = .returned (.bool true) ∧ Below W.heap.size W w'))
  have hl2 : (e.ws.length : Int) ≤ 9223372036854775807 := by have := hok.ws; omega
  obtain ⟨-, -, ⟨g1, g2⟩, ⟨g3, g4⟩, ⟨g5, g6⟩, -⟩ := right_facts e hr
  have hn0 := right_nows e hr (by rw [hk]; rfl)
  obtain ⟨-, ⟨hb1, hb2⟩, ⟨hb3, hb4⟩, ⟨hb5, hb6⟩, ⟨hb7, hb8⟩, ⟨hb9, hb10⟩, ⟨hb11, hb12⟩, ⟨hb13, hb14⟩, ⟨hb15, hb16⟩, ⟨hb17, hb18⟩, -⟩ := hok
  clear hin hr
  obtain ⟨k, bc, bn, sp, sl, ap, al, mp, ml, pr, parts, done, ws⟩ := e
  dsimp only at *
  subst hk
  subst hn0
  go_enter Try.func9, Try.ntmps9
  go_upto_region 0 with (fail)
  go_step
  (with_reducible refine gate_dst (N := 1) rfl ?_)
  refine box_event ?hg (N := 1) ?hd (cs := #[(.int .i64 9), (.int .u32 bc), (.int .u32 bn), (.int .u64 sp), (.int .u32 sl), (.int .u64 ap), (.int .u32 al), (.int .u64 mp), (.int .u32 ml), (.string pr), (.int .u8 parts), (.bool done), (.slice A ([] : List S54).length c)]) (t := 30) ?hr ?_
  case hd => rfl
  case hg => rfl
  case hr => kernel_rfl
  intro gb hgb w1 hbox hbb
  have HB1 := Lib.hid hbb
  have HX1 := Lib.hid hbox
  clear hgb hbox hbb
  go_wp2_with ((with_reducible refine gate_dst (N := 6) rfl ?_); refine wpList_load_row rfl 30 (.tmp 1) rfl gb rfl 30 _ (0, 0) _ HX1.out Try.underlying30 rfl (by kernel_rfl) ?_)
  refine (HRI.out _ HB1.out).mono ?_
  rintro r w2 ⟨rfl, hb⟩
  have HX2 := Lib.hid ((hb.block _ (lt_at2 HX1.out)).trans HX1.out)
  have HB2 := Lib.hid (HB1.out.trans (hb.mono HB1.out.size))
  clear hb HX1 HB1 HRI
  have HBW : Hid (Below w2.heap.size w2 w2) := Lib.hid (Below.refl _ _)
  obtain ⟨tk, etk, ztk, Ttk⟩ := pack (w0 := w2) 9 (bz (9) ⟨by omega, by omega⟩) (fun W => ref_number (9) (by omega) (by omega) W)
  have Etk := Lib.hid etk
  clear etk
  have y0 : w2.cell? ⟨gb, 0, none⟩ = some (.int .i64 9) := (blk_cell ((HBW.out.block _ (lt_at2 HX2.out)).trans HX2.out) 0).trans rfl
  go_wp2_with fail
  refine (Ttk.out _ HBW.out).mono ?_
  rintro r wv1 ⟨rfl, hb⟩
  replace HBW := Lib.hid hb
  clear hb y0
  obtain ⟨m1, hm⟩ : ∃ m, m = tk := ⟨_, rfl⟩
  have zm1 : m1.size ≤ 9 := by rw [hm]; omega
  rw [← hm]
  have HM1 := Lib.hid hm
  clear hm
  obtain ⟨tb, etb, ztb, Ttb⟩ := pack (w0 := w2) 9 (bz (bc) ⟨by omega, by omega⟩) (fun W => ref_numberw (bc) (by omega) (by omega) W)
  have Etb := Lib.hid etb
  clear etb
  obtain ⟨tn, etn, ztn, Ttn⟩ := pack (w0 := w2) 9 (bz (bn) ⟨by omega, by omega⟩) (fun W => ref_numberw (bn) (by omega) (by omega) W)
  have Etn := Lib.hid etn
  clear etn
  obtain ⟨ca1, cb1, cc1⟩ := cat3 (show m1.size + tb.size ≤ 9223372036854775807 by omega)
  obtain ⟨ca2, cb2, cc2⟩ := cat3 (show m1.size + tb.size + tn.size ≤ 9223372036854775807 by omega)
  have HKS : Hid (∀ W, Below w2.heap.size w2 W → Below w2.heap.size w2 W ∧ W.cell? ⟨gb, 0, none⟩ = some (.int .i64 9) ∧ W.cell? ⟨gb, 1, none⟩ = some (.int .u32 bc) ∧ W.cell? ⟨gb, 2, none⟩ = some (.int .u32 bn)) := Lib.hid (fun W hb => by
    have h := (hb.block _ (lt_at2 HX2.out)).trans HX2.out
    exact ⟨hb, (blk_cell h 0).trans rfl, (blk_cell h 1).trans rfl, (blk_cell h 2).trans rfl⟩)
  have hbw := HBW.out
  have y0 : wv1.cell? ⟨gb, 0, none⟩ = some (.int .i64 9) := (blk_cell ((HBW.out.block _ (lt_at2 HX2.out)).trans HX2.out) 0).trans rfl
  have y1 : wv1.cell? ⟨gb, 1, none⟩ = some (.int .u32 bc) := (blk_cell ((HBW.out.block _ (lt_at2 HX2.out)).trans HX2.out) 1).trans rfl
  have y2 : wv1.cell? ⟨gb, 2, none⟩ = some (.int .u32 bn) := (blk_cell ((HBW.out.block _ (lt_at2 HX2.out)).trans HX2.out) 2).trans rfl
  go_wp2_with fail
  go_region_held3 (fun w' => Below w2.heap.size w2 w' ∧ w'.cell? ⟨gb, 0, none⟩ = some (.int .i64 9) ∧ w'.cell? ⟨gb, 1, none⟩ = some (.int .u32 bc) ∧ w'.cell? ⟨gb, 2, none⟩ = some (.int .u32 bn)) (first | exact HKS.out _ (below_drew1 HBW.out) | exact HKS.out _ (by assumption) | go_keep) (first | (go_at_call 21; (with_reducible refine (Ttb.out _ (by first | assumption | exact And.left (by assumption) | exact below_drew1 (by assumption) | exact below_drew1 (Below.refl _ _))).mono ?_); rintro r wp1 ⟨rfl, hbp1⟩) | (go_at_call 21; (with_reducible refine (Ttn.out _ (by first | assumption | exact And.left (by assumption) | exact below_drew1 (by assumption) | exact below_drew1 (Below.refl _ _))).mono ?_); rintro r wp2 ⟨rfl, hbp2⟩))
  replace HBW := Lib.hid hbp2
  clear hbw HKS y0 y1 y2
  obtain ⟨m2, hm⟩ : ∃ m, m = m1 ++ tb ++ tn := ⟨_, rfl⟩
  have zm2 : m2.size ≤ 27 := by rw [hm]; simp only [ByteArray.size_append]; omega
  rw [← hm]
  have HM2 := Lib.hid hm
  clear hm
  clear ca1 cb1 cc1 ca2 cb2 cc2
  obtain ⟨ts, ets, zts, Tts⟩ := pack (w0 := w2) 18 (st_size sp sl ⟨by omega, by omega⟩ ⟨by omega, by omega⟩) (fun W => ref_stamp sp sl ⟨by omega, by omega⟩ ⟨by omega, by omega⟩ W)
  have Ets := Lib.hid ets
  clear ets
  obtain ⟨ca3, cb3, cc3⟩ := cat3 (show m2.size + ts.size ≤ 9223372036854775807 by omega)
  have y0 : wp2.cell? ⟨gb, 0, none⟩ = some (.int .i64 9) := (blk_cell ((HBW.out.block _ (lt_at2 HX2.out)).trans HX2.out) 0).trans rfl
  have y3 : wp2.cell? ⟨gb, 3, none⟩ = some (.int .u64 sp) := (blk_cell ((HBW.out.block _ (lt_at2 HX2.out)).trans HX2.out) 3).trans rfl
  have y4 : wp2.cell? ⟨gb, 4, none⟩ = some (.int .u32 sl) := (blk_cell ((HBW.out.block _ (lt_at2 HX2.out)).trans HX2.out) 4).trans rfl
  go_wp2_with fail
  refine (Tts.out _ HBW.out).mono ?_
  rintro r wv3 ⟨rfl, hb⟩
  replace HBW := Lib.hid hb
  clear hb y0 y3 y4
  have y0 := (blk_cell ((HBW.out.block _ (lt_at2 HX2.out)).trans HX2.out) 0).trans (show _ = some (.int .i64 9) from rfl)
  go_upto_region 17 with (fail)
  obtain ⟨m3, hm⟩ : ∃ m, m = m2 ++ ts := ⟨_, rfl⟩
  have zm3 : m3.size ≤ 45 := by rw [hm]; simp only [ByteArray.size_append]; omega
  rw [← hm]
  have HM3 := Lib.hid hm
  clear hm
  clear ca3 cb3 cc3 y0
  obtain ⟨ta, eta, zta, Tta⟩ := pack (w0 := w2) 18 (st_size ap al ⟨by omega, by omega⟩ ⟨by omega, by omega⟩) (fun W => ref_stamp ap al ⟨by omega, by omega⟩ ⟨by omega, by omega⟩ W)
  have Eta := Lib.hid eta
  clear eta
  obtain ⟨ca4, cb4, cc4⟩ := cat3 (show m3.size + ta.size ≤ 9223372036854775807 by omega)
  have y0 : wv3.cell? ⟨gb, 0, none⟩ = some (.int .i64 9) := (blk_cell ((HBW.out.block _ (lt_at2 HX2.out)).trans HX2.out) 0).trans rfl
  have y5 : wv3.cell? ⟨gb, 5, none⟩ = some (.int .u64 ap) := (blk_cell ((HBW.out.block _ (lt_at2 HX2.out)).trans HX2.out) 5).trans rfl
  have y6 : wv3.cell? ⟨gb, 6, none⟩ = some (.int .u32 al) := (blk_cell ((HBW.out.block _ (lt_at2 HX2.out)).trans HX2.out) 6).trans rfl
  go_wp2_with fail
  refine (Tta.out _ HBW.out).mono ?_
  rintro r wv4 ⟨rfl, hb⟩
  replace HBW := Lib.hid hb
  clear hb y0 y5 y6
  go_upto_region 18 with (fail)
  obtain ⟨m4, hm⟩ : ∃ m, m = m3 ++ ta := ⟨_, rfl⟩
  have zm4 : m4.size ≤ 63 := by rw [hm]; simp only [ByteArray.size_append]; omega
  rw [← hm]
  have HM4 := Lib.hid hm
  clear hm
  clear ca4 cb4 cc4
  have y12 : wv4.cell? ⟨gb, 12, none⟩ = some (.slice A ([] : List S54).length c) := (blk_cell ((HBW.out.block _ (lt_at2 HX2.out)).trans HX2.out) 12).trans rfl
  go_wp2_with fail
  go_loop [4, 5] (fun s i => s = .string m4 ∧ i = .int .i64 0) (fun _ _ => 1)
  case atStart => exact ⟨rfl, rfl⟩
  case round =>
  obtain ⟨rfl, rfl⟩ := hrel
  obtain ⟨tt, ett, ztt, Ttt⟩ := pack (w0 := w2) 9 (bz (parts) ⟨by omega, by omega⟩) (fun W => ref_number (parts) (by omega) (by omega) W)
  have Ett := Lib.hid ett
  clear ett
  obtain ⟨ca5, cb5, cc5⟩ := cat3 (show m4.size + tt.size ≤ 9223372036854775807 by omega)
  have y0 : wv4.cell? ⟨gb, 0, none⟩ = some (.int .i64 9) := (blk_cell ((HBW.out.block _ (lt_at2 HX2.out)).trans HX2.out) 0).trans rfl
  have y10 : wv4.cell? ⟨gb, 10, none⟩ = some (.int .u8 parts) := (blk_cell ((HBW.out.block _ (lt_at2 HX2.out)).trans HX2.out) 10).trans rfl
  go_wp2_with fail
  refine (Ttt.out _ HBW.out).mono ?_
  rintro r wt ⟨rfl, hb⟩
  replace HBW := Lib.hid hb
  clear hb y0 y10
  go_upto_region 24 with (fail)
  obtain ⟨m5, hm⟩ : ∃ m, m = m4 ++ tt := ⟨_, rfl⟩
  have zm5 : m5.size ≤ 72 := by rw [hm]; simp only [ByteArray.size_append]; omega
  rw [← hm]
  have HM5 := Lib.hid hm
  clear hm
  clear ca5 cb5 cc5
  obtain ⟨td, etd, ztd, Ttd⟩ := pack (w0 := w2) 1 (Nat.le_of_eq (encF_size done)) (fun W => ref_flag done W)
  have Etd := Lib.hid etd
  clear etd
  obtain ⟨ca6, cb6, cc6⟩ := cat3 (show m5.size + td.size ≤ 9223372036854775807 by omega)
  have y0 : wt.cell? ⟨gb, 0, none⟩ = some (.int .i64 9) := (blk_cell ((HBW.out.block _ (lt_at2 HX2.out)).trans HX2.out) 0).trans rfl
  have y11 : wt.cell? ⟨gb, 11, none⟩ = some (.bool done) := (blk_cell ((HBW.out.block _ (lt_at2 HX2.out)).trans HX2.out) 11).trans rfl
  go_wp2_with fail
  refine (Ttd.out _ HBW.out).mono ?_
  rintro r wd ⟨rfl, hb⟩
  replace HBW := Lib.hid hb
  clear hb y0 y11
  go_upto_region 26 with (fail)
  obtain ⟨m6, hm⟩ : ∃ m, m = m5 ++ td := ⟨_, rfl⟩
  have zm6 : m6.size ≤ 73 := by rw [hm]; simp only [ByteArray.size_append]; omega
  rw [← hm]
  have HM6 := Lib.hid hm
  clear hm
  clear ca6 cb6 cc6
  have HE : Hid (m6 = encE ⟨9, bc, bn, sp, sl, ap, al, mp, ml, pr, parts, done, []⟩) := Lib.hid (by
    rw [HM6.out, HM5.out, HM4.out, HM3.out, HM2.out, HM1.out]
    rw [← Etk.out, ← Etb.out, ← Etn.out, ← Ets.out, ← Eta.out, ← Ett.out, ← Etd.out]
    simp [encE, hB, hS, hM, hA, hT, hD, encs, ByteArray.append_assoc])
  go_wp2_with fail
  go_ret2
  exact ⟨by rw [← HE.out]; rfl, HB2.out.trans (HBW.out.mono HB2.out.size)⟩
set_option maxRecDepth 100000 in
set_option maxHeartbeats 16000000 in
theorem rwrite_not (e : En) (A : Option Addr) (c : Nat) (w : World) (hok : EOk e) (hr : ¬ rightE e = true) (hin : EnIn w e A c) :
    Calls Try.prog 9 #[.agg #[.int .i64 e.k, .int .u32 e.bc, .int .u32 e.bn, .int .u64 e.sp, .int .u32 e.sl, .int .u64 e.ap, .int .u32 e.al, .int .u64 e.mp, .int .u32 e.ml, .string e.pr, .int .u8 e.parts, .bool e.done, .slice A e.ws.length c]] w fun r w' => r = .returned (.tuple #[.string (writeE e).1, .int .i64 (writeE e).2]) ∧ Below w.heap.size w w' := by
  have hw : writeE e = (⟨#[]⟩, 1) := by unfold writeE; rw [if_neg hr]
  rw [hw]
  clear hw
  have HRI := Lib.hid (fun W (hb : Below w.heap.size w W) => (rright_calls e A c W (hin.below hb) hok.ws).mono fun r w' (h : r = .returned (.bool (rightE e)) ∧ Below W.heap.size W w') => (⟨by rw [h.1, (by simpa using hr : rightE e = false)], h.2⟩ : r = .returned (.bool false) ∧ Below W.heap.size W w'))
  clear hin hr hok
  obtain ⟨k, bc, bn, sp, sl, ap, al, mp, ml, pr, parts, done, ws⟩ := e
  dsimp only at *
  go_enter Try.func9, Try.ntmps9
  go_upto_region 0 with (fail)
  go_step
  (with_reducible refine gate_dst (N := 1) rfl ?_)
  refine box_event ?hg (N := 1) ?hd (cs := #[(.int .i64 k), (.int .u32 bc), (.int .u32 bn), (.int .u64 sp), (.int .u32 sl), (.int .u64 ap), (.int .u32 al), (.int .u64 mp), (.int .u32 ml), (.string pr), (.int .u8 parts), (.bool done), (.slice A ws.length c)]) (t := 30) ?hr ?_
  case hd => rfl
  case hg => rfl
  case hr => kernel_rfl
  intro gb hgb w1 hbox hbb
  have HB1 := Lib.hid hbb
  have HX1 := Lib.hid hbox
  clear hgb hbox hbb
  go_wp2_with ((with_reducible refine gate_dst (N := 6) rfl ?_); refine wpList_load_row rfl 30 (.tmp 1) rfl gb rfl 30 _ (0, 0) _ HX1.out Try.underlying30 rfl (by kernel_rfl) ?_)
  refine (HRI.out _ HB1.out).mono ?_
  rintro r w2 ⟨rfl, hb⟩
  have HB2 := Lib.hid (HB1.out.trans (hb.mono HB1.out.size))
  clear hb HX1 HB1 HRI
  go_wp2_with fail
  go_ret2
  exact ⟨rfl, HB2.out⟩
theorem rwrite_calls (e : En) (A : Option Addr) (c : Nat) (w : World) (hok : EOk e) (hin : EnIn w e A c) :
    Calls Try.prog 9 #[.agg #[.int .i64 e.k, .int .u32 e.bc, .int .u32 e.bn, .int .u64 e.sp, .int .u32 e.sl, .int .u64 e.ap, .int .u32 e.al, .int .u64 e.mp, .int .u32 e.ml, .string e.pr, .int .u8 e.parts, .bool e.done, .slice A e.ws.length c]] w fun r w' => r = .returned (.tuple #[.string (writeE e).1, .int .i64 (writeE e).2]) ∧ Below w.heap.size w w' := by
  by_cases hr : rightE e = true
  · have h := (right_facts e hr).1
    have hw : writeE e = (encE e, 0) := by unfold writeE; rw [if_pos hr]
    rw [hw]
    rcases (show e.k = 1 ∨ e.k = 2 ∨ e.k = 3 ∨ e.k = 4 ∨ e.k = 5 ∨ e.k = 6 ∨ e.k = 7 ∨ e.k = 8 ∨ e.k = 9 by omega) with hk | hk | hk | hk | hk | hk | hk | hk | hk
    · exact rwrite_1 e A c w hk hok hr hin
    · exact rwrite_2 e A c w hk hok hr hin
    · exact rwrite_3 e A c w hk hok hr hin
    · exact rwrite_4 e A c w hk hok hr hin
    · exact rwrite_5 e A c w hk hok hr hin
    · exact rwrite_6 e A c w hk hok hr hin
    · exact rwrite_7 e A c w hk hok hr hin
    · exact rwrite_8 e A c w hk hok hr hin
    · exact rwrite_9 e A c w hk hok hr hin
  · exact rwrite_not e A c w hok hr hin
end Go.Proofs.Ytblabgdkbcphkaa

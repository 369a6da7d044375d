/- The document's limits: its ask, its reply, its Right are the letter's. Conditions: those that each theorem names. -/
import Derived.Test.YtjfokbkfniilhaaLk
import Derived.Test.YtjfokbkfniilhaaLm
set_option linter.unusedVariables false
set_option linter.unusedSimpArgs false
namespace Go.Proofs.Ytjfokbkfniilhaa
open Go.RowKit Go.Proofs.YtjfokbkfniilhaaW.PrintWords Go.Proofs.Ytjfokbkfniilhaa.PLa
theorem rright_calls (p l : Int) (w : World) (h : 0 ≤ p ∧ 0 ≤ l) : Calls Try.prog 62 #[.agg #[.int .u64 p, .int .u32 l]] w fun e w' => e = .returned (.bool (rts p l)) ∧ Below w.heap.size w w' := by
  go_enter Try.func62, Try.ntmps62
  go_wp2
  all_goals go_ret
  all_goals refine ⟨?_, below_alloc' (Below.refl _ _) _⟩
  all_goals first | (simp [rts, *]; done) | (simp [rts, *]; omega)
theorem fits_int2 (a b : ByteArray) : fitsB a b = (decide ((a.size : Int) ≤ 32) && decide ((b.size : Int) ≤ 256)) := by
  unfold fitsB
  have e1 : decide (a.size ≤ 32) = decide ((a.size : Int) ≤ 32) := by rw [Bool.eq_iff_iff]; simp; omega
  have e2 : decide (b.size ≤ 256) = decide ((b.size : Int) ≤ 256) := by rw [Bool.eq_iff_iff]; simp; omega
  rw [e1, e2]
theorem fits_int (a : ByteArray) : fitsB a ⟨#[]⟩ = decide ((a.size : Int) ≤ 32) := by
  rw [fits_int2]
  have : decide (((⟨#[]⟩ : ByteArray).size : Int) ≤ 256) = true := by decide
  rw [this, Bool.and_true]
set_option maxRecDepth 100000 in
set_option maxHeartbeats 8000000 in
theorem rask_calls (q : Rq) (A1 A2 : Option Addr) (c1 c2 : Nat) (w : World) (hq : QOk q) (hC : Kd.C k66 w A1 q.ws.length q.ws) :
    Calls Try.prog 46 #[.agg #[.int .i64 q.k, .int .u32 q.bc, .int .u32 q.bn, .int .u64 q.sp, .int .u32 q.sl, .int .u64 q.ap, .int .u32 q.al, .string q.key, .string q.tt, .int .i64 q.lim, .int .u8 q.parts, .slice A1 q.ws.length c1, .slice A2 q.sk.length c2]] w fun e w' => e = .returned (.bool (askR q)) ∧ Below w.heap.size w w' := by
  have HC := Lib.hid hC
  have HQ := Lib.hid hq
  have HR0 : Hid (askR q = (q.ws.all (fun x => fitsB x.f0 x.f1) && (decide (1 ≤ q.k) && decide (q.k ≤ 9) && (rts q.sp q.sl && rts q.ap q.al) && decide ((q.key.size : Int) ≤ 32) && decide ((q.tt.size : Int) ≤ 32) && decide (0 ≤ q.lim) && decide (q.lim ≤ 32) && decide ((q.ws.length : Int) ≤ 16) && decide ((q.sk.length : Int) ≤ 16)))) := Lib.hid (by unfold askR; rw [fits_int, fits_int])
  have hll := hq.ws
  clear hC hq
  obtain ⟨k, bc, bn, sp, sl, ap, al, key, tt, lim, parts, ws, sk⟩ := q
  dsimp only at *
  have HX0 := Lib.hid (heap_alloc_new w (.cells #[.int .i64 k, .int .u32 bc, .int .u32 bn, .int .u64 sp, .int .u32 sl, .int .u64 ap, .int .u32 al, .string key, .string tt, .int .i64 lim, .int .u8 parts, .slice A1 ws.length c1, .slice A2 sk.length c2] 31))
  have HB0 := Lib.hid (below_alloc' (Below.refl _ w) (.cells #[.int .i64 k, .int .u32 bc, .int .u32 bn, .int .u64 sp, .int .u32 sl, .int .u64 ap, .int .u32 al, .string key, .string tt, .int .i64 lim, .int .u8 parts, .slice A1 ws.length c1, .slice A2 sk.length c2] 31))
  go_enter Try.func46, Try.ntmps46
  go_wp2_with fail
  go_loopg [3] (ws.length + 1) (fun gk v3 wr => ∃ i : Nat, i ≤ ws.length ∧ v3 = .int .i64 (i : Int) ∧ Aside0 (i + gk = ws.length + 1) ∧ Aside0 (Below w.heap.size w wr ∧ wr.heap[w.heap.size]? = some (.cells #[.int .i64 k, .int .u32 bc, .int .u32 bn, .int .u64 sp, .int .u32 sl, .int .u64 ap, .int .u32 al, .string key, .string tt, .int .i64 lim, .int .u8 parts, .slice A1 ws.length c1, .slice A2 sk.length c2] 31 (0, 0)) ∧ (ws.take i).all (fun x => fitsB x.f0 x.f1) = true))
  case atStart => exact ⟨0, Nat.zero_le _, rfl, ⟨by omega⟩, ⟨HB0.out, HX0.out, rfl⟩⟩
  case round =>
    obtain ⟨i, hi, rfl, ⟨hg⟩, ⟨hB, hX, hA⟩⟩ := hrel
    have HG := Lib.hid hg
    have HB := Lib.hid hB
    have HX := Lib.hid hX
    have HA := Lib.hid hA
    clear hg hB hX hA HX0 HB0
    rcases (show i < ws.length ∨ i = ws.length by omega) with hlt | rfl
    · have hlx := lt_at HX.out
      have d11 : wr.cell? ⟨w.heap.size, 11, none⟩ = some (.slice A1 ws.length c1) := (blk_cell HX.out 11).trans rfl
      obtain ⟨ad, rfl, k0, k1, k2⟩ := at_T66 (Kd.C_below HC.out HB.out) (i : Int) (by omega) (by omega)
      rw [Int.toNat_natCast] at k0 k1 k2
      have HE : Hid (rd_T66 ws (i : Int) = ws[i]) := Lib.hid (by
        unfold rd_T66
        rw [List.getD_eq_getElem?_getD, Int.toNat_natCast, List.getElem?_eq_getElem hlt]
        rfl)
      generalize rd_T66 ws (i : Int) = x at *
      obtain ⟨x0, x1, x2⟩ := x
      dsimp only at *
      rcases (show 32 < x0.size ∨ (x0.size ≤ 32 ∧ 256 < x1.size) ∨ (x0.size ≤ 32 ∧ x1.size ≤ 256) by omega) with hz | ⟨hz, hz2⟩ | ⟨hz, hz2⟩
      · have HA2 := Lib.hid (all_false ws (fun x => fitsB x.f0 x.f1) i hlt (by rw [← HE.out]; simp [fitsB]; omega))
        have hz' : (32 : Int) < (x0.size : Int) := by omega
        go_wp2_with fail
        go_ret
        exact ⟨by rw [HR0.out, HA2.out]; rfl, HB.out⟩
      · have HA2 := Lib.hid (all_false ws (fun x => fitsB x.f0 x.f1) i hlt (by rw [← HE.out]; simp [fitsB]; omega))
        have hz' : (x0.size : Int) ≤ 32 := by omega
        have hz3 : (256 : Int) < (x1.size : Int) := by omega
        go_wp2_with fail
        go_ret
        exact ⟨by rw [HR0.out, HA2.out]; rfl, HB.out⟩
      · have HA2 := Lib.hid (all_take_succ ws (fun x => fitsB x.f0 x.f1) i hlt HA.out (by rw [← HE.out]; simp [fitsB]; omega))
        have hz' : (x0.size : Int) ≤ 32 := by omega
        have hz3 : (x1.size : Int) ≤ 256 := by omega
        go_wp2_with fail
        go_roundg (gk - 1)
        case measure => have := HG.out; omega
        case rel => exact ⟨i + 1, by omega, by go_num, ⟨by have := HG.out; omega⟩, ⟨HB.out, HX.out, HA2.out⟩⟩
    · have hx := HX.out
      have hlx := lt_at HX.out
      have d0 : wr.cell? ⟨w.heap.size, 0, none⟩ = some (.int .i64 k) := (blk_cell hx 0).trans rfl
      have d1 : wr.cell? ⟨w.heap.size, 1, none⟩ = some (.int .u32 bc) := (blk_cell hx 1).trans rfl
      have d2 : wr.cell? ⟨w.heap.size, 2, none⟩ = some (.int .u32 bn) := (blk_cell hx 2).trans rfl
      have d3 : wr.cell? ⟨w.heap.size, 3, none⟩ = some (.int .u64 sp) := (blk_cell hx 3).trans rfl
      have d4 : wr.cell? ⟨w.heap.size, 4, none⟩ = some (.int .u32 sl) := (blk_cell hx 4).trans rfl
      have d5 : wr.cell? ⟨w.heap.size, 5, none⟩ = some (.int .u64 ap) := (blk_cell hx 5).trans rfl
      have d6 : wr.cell? ⟨w.heap.size, 6, none⟩ = some (.int .u32 al) := (blk_cell hx 6).trans rfl
      have d7 : wr.cell? ⟨w.heap.size, 7, none⟩ = some (.string key) := (blk_cell hx 7).trans rfl
      have d8 : wr.cell? ⟨w.heap.size, 8, none⟩ = some (.string tt) := (blk_cell hx 8).trans rfl
      have d9 : wr.cell? ⟨w.heap.size, 9, none⟩ = some (.int .i64 lim) := (blk_cell hx 9).trans rfl
      have d10 : wr.cell? ⟨w.heap.size, 10, none⟩ = some (.int .u8 parts) := (blk_cell hx 10).trans rfl
      have d11 : wr.cell? ⟨w.heap.size, 11, none⟩ = some (.slice A1 ws.length c1) := (blk_cell hx 11).trans rfl
      have d12 : wr.cell? ⟨w.heap.size, 12, none⟩ = some (.slice A2 sk.length c2) := (blk_cell hx 12).trans rfl
      have HA3 : Hid (ws.all (fun x => fitsB x.f0 x.f1) = true) := Lib.hid (by have h := HA.out; rwa [List.take_length] at h)
      obtain ⟨h_0, h_1, h_2, h_3, h_4, h_5, h_6, h_7, h_8, h_9, h_10, h_11⟩ := HQ.out
      clear HA HC HG hx HQ
      dsimp only at *
      go_wp2_with (first | (go_at_call 62; refine (rright_calls _ _ _ (by first | exact ⟨h_3.1, h_4.1⟩ | exact ⟨h_5.1, h_6.1⟩)).mono ?_; rintro e w1 ⟨rfl, hB1⟩; obtain ⟨hc1, hf1⟩ := bcell hB1; have hlx := Nat.lt_of_lt_of_le hlx hB1.size; have HB := Lib.hid (bel_then HB.out hB1); clear hB1))
      all_goals go_ret
      all_goals refine ⟨?_, HB.out⟩
      all_goals rw [HR0.out, HA3.out]
      all_goals first | (simp [*]; done) | (simp [*]; omega)
set_option maxRecDepth 100000 in
set_option maxHeartbeats 8000000 in
theorem rreply_calls (r : Rp) (A3 : Option Addr) (c3 : Nat) (w : World) (hq : POk r) (hC : Kd.C k68 w A3 r.ps.length r.ps) :
    Calls Try.prog 45 #[.agg #[.int .i64 r.k, .int .i64 r.er, .bool r.fd, .string r.val, .slice A3 r.ps.length c3, .int .u32 r.wc, .int .u32 r.wn, .int .u64 r.sp, .int .u32 r.sl, .int .u64 r.ap, .int .u32 r.al, .string r.pr, .int .u64 r.np, .int .u32 r.nl]] w fun e w' => e = .returned (.bool (replyR r)) ∧ Below w.heap.size w w' := by
  have HC := Lib.hid hC
  have HQ := Lib.hid hq
  have HR0 : Hid (replyR r = (r.ps.all (fun x => fitsB x.f0 x.f1) && (decide (0 ≤ r.k) && decide (r.k ≤ 10) && decide (0 ≤ r.er) && decide (r.er ≤ 255) && (rts r.sp r.sl && rts r.ap r.al && rts r.np r.nl) && (decide ((r.pr.size : Int) ≤ 32) && decide ((r.val.size : Int) ≤ 256)) && decide ((r.ps.length : Int) ≤ 32)))) := Lib.hid (by unfold replyR; rw [fits_int2])
  have hll := hq.ps
  clear hC hq
  obtain ⟨k, er, fd, val, ps, wc, wn, sp, sl, ap, al, pr, np, nl⟩ := r
  dsimp only at *
  have HX0 := Lib.hid (heap_alloc_new w (.cells #[.int .i64 k, .int .i64 er, .bool fd, .string val, .slice A3 ps.length c3, .int .u32 wc, .int .u32 wn, .int .u64 sp, .int .u32 sl, .int .u64 ap, .int .u32 al, .string pr, .int .u64 np, .int .u32 nl] 35))
  have HB0 := Lib.hid (below_alloc' (Below.refl _ w) (.cells #[.int .i64 k, .int .i64 er, .bool fd, .string val, .slice A3 ps.length c3, .int .u32 wc, .int .u32 wn, .int .u64 sp, .int .u32 sl, .int .u64 ap, .int .u32 al, .string pr, .int .u64 np, .int .u32 nl] 35))
  go_enter Try.func45, Try.ntmps45
  go_wp2_with fail
  go_loopg [3] (ps.length + 1) (fun gk v3 wr => ∃ i : Nat, i ≤ ps.length ∧ v3 = .int .i64 (i : Int) ∧ Aside0 (i + gk = ps.length + 1) ∧ Aside0 (Below w.heap.size w wr ∧ wr.heap[w.heap.size]? = some (.cells #[.int .i64 k, .int .i64 er, .bool fd, .string val, .slice A3 ps.length c3, .int .u32 wc, .int .u32 wn, .int .u64 sp, .int .u32 sl, .int .u64 ap, .int .u32 al, .string pr, .int .u64 np, .int .u32 nl] 35 (0, 0)) ∧ (ps.take i).all (fun x => fitsB x.f0 x.f1) = true))
  case atStart => exact ⟨0, Nat.zero_le _, rfl, ⟨by omega⟩, ⟨HB0.out, HX0.out, rfl⟩⟩
  case round =>
    obtain ⟨i, hi, rfl, ⟨hg⟩, ⟨hB, hX, hA⟩⟩ := hrel
    have HG := Lib.hid hg
    have HB := Lib.hid hB
    have HX := Lib.hid hX
    have HA := Lib.hid hA
    clear hg hB hX hA HX0 HB0
    rcases (show i < ps.length ∨ i = ps.length by omega) with hlt | rfl
    · have hlx := lt_at HX.out
      have d4 : wr.cell? ⟨w.heap.size, 4, none⟩ = some (.slice A3 ps.length c3) := (blk_cell HX.out 4).trans rfl
      obtain ⟨ad, rfl, k0, k1⟩ := at_T68 (Kd.C_below HC.out HB.out) (i : Int) (by omega) (by omega)
      rw [Int.toNat_natCast] at k0 k1
      have HE : Hid (rd_T68 ps (i : Int) = ps[i]) := Lib.hid (by
        unfold rd_T68
        rw [List.getD_eq_getElem?_getD, Int.toNat_natCast, List.getElem?_eq_getElem hlt]
        rfl)
      generalize rd_T68 ps (i : Int) = x at *
      obtain ⟨x0, x1⟩ := x
      dsimp only at *
      rcases (show 32 < x0.size ∨ (x0.size ≤ 32 ∧ 256 < x1.size) ∨ (x0.size ≤ 32 ∧ x1.size ≤ 256) by omega) with hz | ⟨hz, hz2⟩ | ⟨hz, hz2⟩
      · have HA2 := Lib.hid (all_false ps (fun x => fitsB x.f0 x.f1) i hlt (by rw [← HE.out]; simp [fitsB]; omega))
        have hz' : (32 : Int) < (x0.size : Int) := by omega
        go_wp2_with fail
        go_ret
        exact ⟨by rw [HR0.out, HA2.out]; rfl, HB.out⟩
      · have HA2 := Lib.hid (all_false ps (fun x => fitsB x.f0 x.f1) i hlt (by rw [← HE.out]; simp [fitsB]; omega))
        have hz' : (x0.size : Int) ≤ 32 := by omega
        have hz3 : (256 : Int) < (x1.size : Int) := by omega
        go_wp2_with fail
        go_ret
        exact ⟨by rw [HR0.out, HA2.out]; rfl, HB.out⟩
      · have HA2 := Lib.hid (all_take_succ ps (fun x => fitsB x.f0 x.f1) i hlt HA.out (by rw [← HE.out]; simp [fitsB]; omega))
        have hz' : (x0.size : Int) ≤ 32 := by omega
        have hz3 : (x1.size : Int) ≤ 256 := by omega
        go_wp2_with fail
        go_roundg (gk - 1)
        case measure => have := HG.out; omega
        case rel => exact ⟨i + 1, by omega, by go_num, ⟨by have := HG.out; omega⟩, ⟨HB.out, HX.out, HA2.out⟩⟩
    · have hx := HX.out
      have hlx := lt_at HX.out
      have d0 : wr.cell? ⟨w.heap.size, 0, none⟩ = some (.int .i64 k) := (blk_cell hx 0).trans rfl
      have d1 : wr.cell? ⟨w.heap.size, 1, none⟩ = some (.int .i64 er) := (blk_cell hx 1).trans rfl
      have d2 : wr.cell? ⟨w.heap.size, 2, none⟩ = some (.bool fd) := (blk_cell hx 2).trans rfl
      have d3 : wr.cell? ⟨w.heap.size, 3, none⟩ = some (.string val) := (blk_cell hx 3).trans rfl
      have d4 : wr.cell? ⟨w.heap.size, 4, none⟩ = some (.slice A3 ps.length c3) := (blk_cell hx 4).trans rfl
      have d5 : wr.cell? ⟨w.heap.size, 5, none⟩ = some (.int .u32 wc) := (blk_cell hx 5).trans rfl
      have d6 : wr.cell? ⟨w.heap.size, 6, none⟩ = some (.int .u32 wn) := (blk_cell hx 6).trans rfl
      have d7 : wr.cell? ⟨w.heap.size, 7, none⟩ = some (.int .u64 sp) := (blk_cell hx 7).trans rfl
      have d8 : wr.cell? ⟨w.heap.size, 8, none⟩ = some (.int .u32 sl) := (blk_cell hx 8).trans rfl
      have d9 : wr.cell? ⟨w.heap.size, 9, none⟩ = some (.int .u64 ap) := (blk_cell hx 9).trans rfl
      have d10 : wr.cell? ⟨w.heap.size, 10, none⟩ = some (.int .u32 al) := (blk_cell hx 10).trans rfl
      have d11 : wr.cell? ⟨w.heap.size, 11, none⟩ = some (.string pr) := (blk_cell hx 11).trans rfl
      have d12 : wr.cell? ⟨w.heap.size, 12, none⟩ = some (.int .u64 np) := (blk_cell hx 12).trans rfl
      have d13 : wr.cell? ⟨w.heap.size, 13, none⟩ = some (.int .u32 nl) := (blk_cell hx 13).trans rfl
      have HA3 : Hid (ps.all (fun x => fitsB x.f0 x.f1) = true) := Lib.hid (by have h := HA.out; rwa [List.take_length] at h)
      obtain ⟨h_0, h_1, h_2, h_3, h_4, h_5, h_6, h_7, h_8, h_9, h_10⟩ := HQ.out
      clear HA HC HG hx HQ
      dsimp only at *
      go_wp2_with (first | (go_at_call 62; refine (rright_calls _ _ _ (by first | exact ⟨h_5.1, h_6.1⟩ | exact ⟨h_7.1, h_8.1⟩ | exact ⟨h_9.1, h_10.1⟩)).mono ?_; rintro e w1 ⟨rfl, hB1⟩; obtain ⟨hc1, hf1⟩ := bcell hB1; have hlx := Nat.lt_of_lt_of_le hlx hB1.size; have HB := Lib.hid (bel_then HB.out hB1); clear hB1))
      all_goals go_ret
      all_goals refine ⟨?_, HB.out⟩
      all_goals rw [HR0.out, HA3.out]
      all_goals first | (simp [*]; done) | (simp [*]; omega)
end Go.Proofs.Ytjfokbkfniilhaa

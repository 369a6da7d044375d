/- Letters: asks and replies that are within their bounds; letters that are right. Conditions: those that each theorem names. -/
import Derived.Test.YtjfokbkfniilhaaLc
set_option linter.unusedVariables false
set_option linter.unusedSimpArgs false
namespace Go.Proofs.Ytjfokbkfniilhaa
open Go.RowKit Go.Proofs.YtjfokbkfniilhaaW.PrintWords Go.Proofs.Ytjfokbkfniilhaa.PLa

def U32 (x : Int) : Prop := 0 ≤ x ∧ x ≤ 4294967295
def U64 (x : Int) : Prop := 0 ≤ x ∧ x ≤ 18446744073709551615
def I64 (x : Int) : Prop := -9223372036854775808 ≤ x ∧ x ≤ 9223372036854775807
/-- What a request's types demand, and that its lists are not too long. -/
structure QOk (q : Rq) : Prop where
  k : I64 q.k
  bc : U32 q.bc
  bn : U32 q.bn
  sp : U64 q.sp
  sl : U32 q.sl
  ap : U64 q.ap
  al : U32 q.al
  lim : I64 q.lim
  parts : 0 ≤ q.parts ∧ q.parts ≤ 255
  ws : q.ws.length ≤ 9223372036854775807
  sk : q.sk.length ≤ 9223372036854775807
  skx : ∀ x ∈ q.sk, U32 x.f0 ∧ U32 x.f1
structure POk (r : Rp) : Prop where
  k : I64 r.k
  er : I64 r.er
  ps : r.ps.length ≤ 9223372036854775807
  wc : U32 r.wc
  wn : U32 r.wn
  sp : U64 r.sp
  sl : U32 r.sl
  ap : U64 r.ap
  al : U32 r.al
  np : U64 r.np
  nl : U32 r.nl
def fitsB (a b : ByteArray) : Bool := decide (a.size ≤ 32) && decide (b.size ≤ 256)
def askR (q : Rq) : Bool := q.ws.all (fun x => fitsB x.f0 x.f1) && (decide (1 ≤ q.k) && decide (q.k ≤ 9) && (rts q.sp q.sl && rts q.ap q.al) && fitsB q.key ⟨#[]⟩ && fitsB q.tt ⟨#[]⟩ && decide (0 ≤ q.lim) && decide (q.lim ≤ 32) && decide ((q.ws.length : Int) ≤ 16) && decide ((q.sk.length : Int) ≤ 16))
def replyR (r : Rp) : Bool := r.ps.all (fun x => fitsB x.f0 x.f1) && (decide (0 ≤ r.k) && decide (r.k ≤ 10) && decide (0 ≤ r.er) && decide (r.er ≤ 255) && (rts r.sp r.sl && rts r.ap r.al && rts r.np r.nl) && fitsB r.pr r.val && decide ((r.ps.length : Int) ≤ 32))
theorem all_take_succ {α : Type} (l : List α) (f : α → Bool) (i : Nat) (h : i < l.length) (h0 : (l.take i).all f = true) (h1 : f l[i] = true) : (l.take (i + 1)).all f = true := by
  rw [List.take_succ_eq_append_getElem h, List.all_append, h0]
  simp [h1]
theorem all_false {α : Type} (l : List α) (f : α → Bool) (i : Nat) (h : i < l.length) (h1 : f l[i] = false) : l.all f = false := by
  rw [List.all_eq_false]
  exact ⟨l[i], List.getElem_mem h, by rw [h1]; decide⟩
theorem fits2_calls (a b : ByteArray) (w : World) : Calls Try.prog 48 #[.string a, .string b] w fun e w' => e = .returned (.bool (fitsB a b)) ∧ w' = w := fits_calls a b w
set_option maxRecDepth 100000 in
set_option maxHeartbeats 8000000 in
theorem ask_calls (q : Rq) (A1 A2 : Option Addr) (c1 c2 : Nat) (w : World) (hq : QOk q) (hC : Kd.C k66 w A1 q.ws.length q.ws) :
    Calls Try.prog 27 #[.agg #[.int .i64 q.k, .int .u32 q.bc, .int .u32 q.bn, .int .u64 q.sp, .int .u32 q.sl, .int .u64 q.ap, .int .u32 q.al, .string q.key, .string q.tt, .int .i64 q.lim, .int .u8 q.parts, .slice A1 q.ws.length c1, .slice A2 q.sk.length c2]] w fun e w' => e = .returned (.bool (askR q)) ∧ Below w.heap.size w w' := by
  have HC := Lib.hid hC
  have HQ := Lib.hid hq
  have HR0 : Hid (askR q = (q.ws.all (fun x => fitsB x.f0 x.f1) && (decide (1 ≤ q.k) && decide (q.k ≤ 9) && (rts q.sp q.sl && rts q.ap q.al) && fitsB q.key ⟨#[]⟩ && fitsB q.tt ⟨#[]⟩ && decide (0 ≤ q.lim) && decide (q.lim ≤ 32) && decide ((q.ws.length : Int) ≤ 16) && decide ((q.sk.length : Int) ≤ 16)))) := rfl
  have hll := hq.ws
  clear hC hq
  obtain ⟨k, bc, bn, sp, sl, ap, al, key, tt, lim, parts, ws, sk⟩ := q
  dsimp only at *
  go_enter Try.func27, Try.ntmps27
  go_wp2_with fail
  have HLT : Hid (w.heap.size < (w.alloc (.cells #[.int .i64 k, .int .u32 bc, .int .u32 bn, .int .u64 sp, .int .u32 sl, .int .u64 ap, .int .u32 al, .string key, .string tt, .int .i64 lim, .int .u8 parts, .slice A1 ws.length c1, .slice A2 sk.length c2] 31)).heap.size) := Lib.hid (lt_at (heap_alloc_new w _))
  have HX0 := Lib.hid (heap_alloc_new w (.cells #[.int .i64 k, .int .u32 bc, .int .u32 bn, .int .u64 sp, .int .u32 sl, .int .u64 ap, .int .u32 al, .string key, .string tt, .int .i64 lim, .int .u8 parts, .slice A1 ws.length c1, .slice A2 sk.length c2] 31))
  have HB0 := Lib.hid (below_alloc' (Below.refl _ w) (.cells #[.int .i64 k, .int .u32 bc, .int .u32 bn, .int .u64 sp, .int .u32 sl, .int .u64 ap, .int .u32 al, .string key, .string tt, .int .i64 lim, .int .u8 parts, .slice A1 ws.length c1, .slice A2 sk.length c2] 31))
  go_loopg [8] (ws.length + 1) (fun gk v8 wr => ∃ i : Nat, i ≤ ws.length ∧ v8 = .int .i64 (i : Int) ∧ Aside0 (i + gk = ws.length + 1) ∧ Aside0 (Below w.heap.size w wr ∧ wr.heap[w.heap.size]? = some (.cells #[.int .i64 k, .int .u32 bc, .int .u32 bn, .int .u64 sp, .int .u32 sl, .int .u64 ap, .int .u32 al, .string key, .string tt, .int .i64 lim, .int .u8 parts, .slice A1 ws.length c1, .slice A2 sk.length c2] 31 (0, 0)) ∧ (ws.take i).all (fun x => fitsB x.f0 x.f1) = true))
  case atStart => exact ⟨0, Nat.zero_le _, rfl, ⟨by omega⟩, ⟨HB0.out, HX0.out, rfl⟩⟩
  case round =>
    obtain ⟨i, hi, rfl, ⟨hg⟩, ⟨hB, hX, hA⟩⟩ := hrel
    have HG := Lib.hid hg
    have HB := Lib.hid hB
    have HX := Lib.hid hX
    have HA := Lib.hid hA
    clear hg hB hX hA HX0 HB0 HLT
    rcases (show i < ws.length ∨ i = ws.length by omega) with hlt | rfl
    · obtain ⟨ad, rfl, k0, k1, k2⟩ := at_T66 (Kd.C_below HC.out HB.out) (i : Int) (by omega) (by omega)
      rw [Int.toNat_natCast] at k0  k1  k2
      have HE : Hid (rd_T66 ws (i : Int) = ws[i]) := Lib.hid (by
        unfold rd_T66
        rw [List.getD_eq_getElem?_getD, Int.toNat_natCast, List.getElem?_eq_getElem hlt]
        rfl)
      generalize rd_T66 ws (i : Int) = x at *
      obtain ⟨x0, x1, x2⟩ := x
      dsimp only at *
      cases hf : fitsB x0 x1 with
      | true =>
        have HA2 := Lib.hid (all_take_succ ws (fun x => fitsB x.f0 x.f1) i hlt HA.out (by rw [← HE.out]; exact hf))
        have HF := Lib.hid hf
        clear hf
        go_wp2_with fail
        refine (fits2_calls x0 x1 _).mono ?_
        rw [HF.out]
        rintro e w1 ⟨rfl, rfl⟩
        go_wp2
        go_roundg (gk - 1)
        case measure => have := HG.out; omega
        case rel => exact ⟨i + 1, by omega, by go_num, ⟨by have := HG.out; omega⟩, ⟨below_alloc' HB.out _, ((below_alloc (Below.refl _ wr) _).block _ (lt_at HX.out)).trans HX.out, HA2.out⟩⟩
      | false =>
        have HA2 := Lib.hid (all_false ws (fun x => fitsB x.f0 x.f1) i hlt (by rw [← HE.out]; exact hf))
        have HF := Lib.hid hf
        clear hf
        go_wp2_with fail
        refine (fits2_calls x0 x1 _).mono ?_
        rw [HF.out]
        rintro e w1 ⟨rfl, rfl⟩
        go_wp2_with fail
        go_ret
        refine ⟨?_, below_alloc' HB.out _⟩
        rw [HR0.out, HA2.out]
        rfl
    · have hx := HX.out
      have hlx := lt_at HX.out
      have d0 : wr.cell? ⟨w.heap.size, 0, none⟩ = some (.int .i64 k) := (blk_cell hx 0).trans rfl
      have d1 : wr.cell? ⟨w.heap.size, 1, none⟩ = some (.int .u32 bc) := (blk_cell hx 1).trans rfl
      have d2 : wr.cell? ⟨w.heap.size, 2, none⟩ = some (.int .u32 bn) := (blk_cell hx 2).trans rfl
      have d3 : wr.cell? ⟨w.heap.size, 3, none⟩ = some (.int .u64 sp) := (blk_cell hx 3).trans rfl
      have d4 : wr.cell? ⟨w.heap.size, 4, none⟩ = some (.int .u32 sl) := (blk_cell hx 4).trans rfl
      have d5 : wr.cell? ⟨w.heap.size, 5, none⟩ = some (.int .u64 ap) := (blk_cell hx 5).trans rfl
      have d6 : wr.cell? ⟨w.heap.size, 6, none⟩ = some (.int .u32 al) := (blk_cell hx 6).trans rfl
      have d7 : wr.cell? ⟨w.heap.size, 7, none⟩ = some (.string key) := (blk_cell hx 7).trans rfl
      have d8 : wr.cell? ⟨w.heap.size, 8, none⟩ = some (.string tt) := (blk_cell hx 8).trans rfl
      have d9 : wr.cell? ⟨w.heap.size, 9, none⟩ = some (.int .i64 lim) := (blk_cell hx 9).trans rfl
      have d10 : wr.cell? ⟨w.heap.size, 10, none⟩ = some (.int .u8 parts) := (blk_cell hx 10).trans rfl
      have d11 : wr.cell? ⟨w.heap.size, 11, none⟩ = some (.slice A1 ws.length c1) := (blk_cell hx 11).trans rfl
      have d12 : wr.cell? ⟨w.heap.size, 12, none⟩ = some (.slice A2 sk.length c2) := (blk_cell hx 12).trans rfl
      have HA3 : Hid (ws.all (fun x => fitsB x.f0 x.f1) = true) := Lib.hid (by have h := HA.out; rwa [List.take_length] at h)
      obtain ⟨h_0, h_1, h_2, h_3, h_4, h_5, h_6, h_7, h_8, h_9, h_10, h_11⟩ := HQ.out
      clear HA HC HG hx HQ
      dsimp only at *
      go_wp2_with (first | (go_at_call 49; refine (stamps2_calls _ sp sl ap al _ ⟨h_3.1, h_4.1⟩ ⟨h_5.1, h_6.1⟩ (heap_alloc_new _ _)).mono ?_; rintro e w1 ⟨rfl, hB1⟩; obtain ⟨hc1, hf1⟩ := bcell hB1; have HB2 := Lib.hid (bel_then (below_alloc' HB.out _) hB1); clear hB1) | (go_at_call 48; refine (fits2_calls _ _ _).mono ?_; rintro e w7 ⟨rfl, rfl⟩))
      all_goals go_ret
      all_goals refine ⟨?_, by first | exact HB2.out | exact HB.out⟩
      all_goals rw [HR0.out, HA3.out]
      all_goals first | (simp [*]; done) | (simp [*]; omega)
set_option maxRecDepth 100000 in
set_option maxHeartbeats 8000000 in
theorem reply_calls (r : Rp) (A3 : Option Addr) (c3 : Nat) (w : World) (hq : POk r) (hC : Kd.C k68 w A3 r.ps.length r.ps) :
    Calls Try.prog 25 #[.agg #[.int .i64 r.k, .int .i64 r.er, .bool r.fd, .string r.val, .slice A3 r.ps.length c3, .int .u32 r.wc, .int .u32 r.wn, .int .u64 r.sp, .int .u32 r.sl, .int .u64 r.ap, .int .u32 r.al, .string r.pr, .int .u64 r.np, .int .u32 r.nl]] w fun e w' => e = .returned (.bool (replyR r)) ∧ Below w.heap.size w w' := by
  have HC := Lib.hid hC
  have HQ := Lib.hid hq
  have HR0 : Hid (replyR r = (r.ps.all (fun x => fitsB x.f0 x.f1) && (decide (0 ≤ r.k) && decide (r.k ≤ 10) && decide (0 ≤ r.er) && decide (r.er ≤ 255) && (rts r.sp r.sl && rts r.ap r.al && rts r.np r.nl) && fitsB r.pr r.val && decide ((r.ps.length : Int) ≤ 32)))) := rfl
  have hll := hq.ps
  clear hC hq
  obtain ⟨k, er, fd, val, ps, wc, wn, sp, sl, ap, al, pr, np, nl⟩ := r
  dsimp only at *
  go_enter Try.func25, Try.ntmps25
  go_wp2_with fail
  have HLT : Hid (w.heap.size < (w.alloc (.cells #[.int .i64 k, .int .i64 er, .bool fd, .string val, .slice A3 ps.length c3, .int .u32 wc, .int .u32 wn, .int .u64 sp, .int .u32 sl, .int .u64 ap, .int .u32 al, .string pr, .int .u64 np, .int .u32 nl] 35)).heap.size) := Lib.hid (lt_at (heap_alloc_new w _))
  have HX0 := Lib.hid (heap_alloc_new w (.cells #[.int .i64 k, .int .i64 er, .bool fd, .string val, .slice A3 ps.length c3, .int .u32 wc, .int .u32 wn, .int .u64 sp, .int .u32 sl, .int .u64 ap, .int .u32 al, .string pr, .int .u64 np, .int .u32 nl] 35))
  have HB0 := Lib.hid (below_alloc' (Below.refl _ w) (.cells #[.int .i64 k, .int .i64 er, .bool fd, .string val, .slice A3 ps.length c3, .int .u32 wc, .int .u32 wn, .int .u64 sp, .int .u32 sl, .int .u64 ap, .int .u32 al, .string pr, .int .u64 np, .int .u32 nl] 35))
  go_loopg [8] (ps.length + 1) (fun gk v8 wr => ∃ i : Nat, i ≤ ps.length ∧ v8 = .int .i64 (i : Int) ∧ Aside0 (i + gk = ps.length + 1) ∧ Aside0 (Below w.heap.size w wr ∧ wr.heap[w.heap.size]? = some (.cells #[.int .i64 k, .int .i64 er, .bool fd, .string val, .slice A3 ps.length c3, .int .u32 wc, .int .u32 wn, .int .u64 sp, .int .u32 sl, .int .u64 ap, .int .u32 al, .string pr, .int .u64 np, .int .u32 nl] 35 (0, 0)) ∧ (ps.take i).all (fun x => fitsB x.f0 x.f1) = true))
  case atStart => exact ⟨0, Nat.zero_le _, rfl, ⟨by omega⟩, ⟨HB0.out, HX0.out, rfl⟩⟩
  case round =>
    obtain ⟨i, hi, rfl, ⟨hg⟩, ⟨hB, hX, hA⟩⟩ := hrel
    have HG := Lib.hid hg
    have HB := Lib.hid hB
    have HX := Lib.hid hX
    have HA := Lib.hid hA
    clear hg hB hX hA HX0 HB0 HLT
    rcases (show i < ps.length ∨ i = ps.length by omega) with hlt | rfl
    · obtain ⟨ad, rfl, k0, k1⟩ := at_T68 (Kd.C_below HC.out HB.out) (i : Int) (by omega) (by omega)
      rw [Int.toNat_natCast] at k0  k1
      have HE : Hid (rd_T68 ps (i : Int) = ps[i]) := Lib.hid (by
        unfold rd_T68
        rw [List.getD_eq_getElem?_getD, Int.toNat_natCast, List.getElem?_eq_getElem hlt]
        rfl)
      generalize rd_T68 ps (i : Int) = x at *
      obtain ⟨x0, x1⟩ := x
      dsimp only at *
      cases hf : fitsB x0 x1 with
      | true =>
        have HA2 := Lib.hid (all_take_succ ps (fun x => fitsB x.f0 x.f1) i hlt HA.out (by rw [← HE.out]; exact hf))
        have HF := Lib.hid hf
        clear hf
        go_wp2_with fail
        refine (fits2_calls x0 x1 _).mono ?_
        rw [HF.out]
        rintro e w1 ⟨rfl, rfl⟩
        go_wp2
        go_roundg (gk - 1)
        case measure => have := HG.out; omega
        case rel => exact ⟨i + 1, by omega, by go_num, ⟨by have := HG.out; omega⟩, ⟨below_alloc' HB.out _, ((below_alloc (Below.refl _ wr) _).block _ (lt_at HX.out)).trans HX.out, HA2.out⟩⟩
      | false =>
        have HA2 := Lib.hid (all_false ps (fun x => fitsB x.f0 x.f1) i hlt (by rw [← HE.out]; exact hf))
        have HF := Lib.hid hf
        clear hf
        go_wp2_with fail
        refine (fits2_calls x0 x1 _).mono ?_
        rw [HF.out]
        rintro e w1 ⟨rfl, rfl⟩
        go_wp2_with fail
        go_ret
        refine ⟨?_, below_alloc' HB.out _⟩
        rw [HR0.out, HA2.out]
        rfl
    · have hx := HX.out
      have hlx := lt_at HX.out
      have d0 : wr.cell? ⟨w.heap.size, 0, none⟩ = some (.int .i64 k) := (blk_cell hx 0).trans rfl
      have d1 : wr.cell? ⟨w.heap.size, 1, none⟩ = some (.int .i64 er) := (blk_cell hx 1).trans rfl
      have d2 : wr.cell? ⟨w.heap.size, 2, none⟩ = some (.bool fd) := (blk_cell hx 2).trans rfl
      have d3 : wr.cell? ⟨w.heap.size, 3, none⟩ = some (.string val) := (blk_cell hx 3).trans rfl
      have d4 : wr.cell? ⟨w.heap.size, 4, none⟩ = some (.slice A3 ps.length c3) := (blk_cell hx 4).trans rfl
      have d5 : wr.cell? ⟨w.heap.size, 5, none⟩ = some (.int .u32 wc) := (blk_cell hx 5).trans rfl
      have d6 : wr.cell? ⟨w.heap.size, 6, none⟩ = some (.int .u32 wn) := (blk_cell hx 6).trans rfl
      have d7 : wr.cell? ⟨w.heap.size, 7, none⟩ = some (.int .u64 sp) := (blk_cell hx 7).trans rfl
      have d8 : wr.cell? ⟨w.heap.size, 8, none⟩ = some (.int .u32 sl) := (blk_cell hx 8).trans rfl
      have d9 : wr.cell? ⟨w.heap.size, 9, none⟩ = some (.int .u64 ap) := (blk_cell hx 9).trans rfl
      have d10 : wr.cell? ⟨w.heap.size, 10, none⟩ = some (.int .u32 al) := (blk_cell hx 10).trans rfl
      have d11 : wr.cell? ⟨w.heap.size, 11, none⟩ = some (.string pr) := (blk_cell hx 11).trans rfl
      have d12 : wr.cell? ⟨w.heap.size, 12, none⟩ = some (.int .u64 np) := (blk_cell hx 12).trans rfl
      have d13 : wr.cell? ⟨w.heap.size, 13, none⟩ = some (.int .u32 nl) := (blk_cell hx 13).trans rfl
      have HA3 : Hid (ps.all (fun x => fitsB x.f0 x.f1) = true) := Lib.hid (by have h := HA.out; rwa [List.take_length] at h)
      obtain ⟨h_0, h_1, h_2, h_3, h_4, h_5, h_6, h_7, h_8, h_9, h_10⟩ := HQ.out
      clear HA HC HG hx HQ
      dsimp only at *
      go_wp2_with (first | (go_at_call 49; refine (stamps3_calls _ sp sl ap al np nl _ ⟨h_5.1, h_6.1⟩ ⟨h_7.1, h_8.1⟩ ⟨h_9.1, h_10.1⟩ (heap_alloc_new _ _)).mono ?_; rintro e w1 ⟨rfl, hB1⟩; obtain ⟨hc1, hf1⟩ := bcell hB1; have HB2 := Lib.hid (bel_then (below_alloc' HB.out _) hB1); clear hB1) | (go_at_call 48; refine (fits2_calls _ _ _).mono ?_; rintro e w7 ⟨rfl, rfl⟩))
      all_goals go_ret
      all_goals refine ⟨?_, by first | exact HB2.out | exact HB.out⟩
      all_goals rw [HR0.out, HA3.out]
      all_goals first | (simp [*]; done) | (simp [*]; omega)
end Go.Proofs.Ytjfokbkfniilhaa

/- Letters as plain data; which are right. Conditions: those that each theorem names. -/
import Derived.Test.YtjfokbkfniilhaaPLax0
import Derived.Lib.Hide
set_option linter.unusedVariables false
set_option linter.unusedSimpArgs false
namespace Go.Proofs.Ytjfokbkfniilhaa
open Go.RowKit Go.Proofs.YtjfokbkfniilhaaW.PrintWords Go.Proofs.Ytjfokbkfniilhaa.PLa

/-- A request. -/
structure Rq where
  k : Int
  bc : Int
  bn : Int
  sp : Int
  sl : Int
  ap : Int
  al : Int
  key : ByteArray
  tt : ByteArray
  lim : Int
  parts : Int
  ws : List S66
  sk : List S24
/-- A reply. -/
structure Rp where
  k : Int
  er : Int
  fd : Bool
  val : ByteArray
  ps : List S68
  wc : Int
  wn : Int
  sp : Int
  sl : Int
  ap : Int
  al : Int
  pr : ByteArray
  np : Int
  nl : Int
/-- A letter. -/
structure Lt where
  cl : Int
  sh : Int
  sq : Int
  an : Bool
  q : Rq
  r : Rp
def z (x : Int) : Bool := decide (x = 0)
def e0 (s : ByteArray) : Bool := decide (s.toList = ([] : List UInt8))
def zq (q : Rq) : Bool := z q.k && (z q.bc && z q.bn) && (z q.sp && z q.sl) && (z q.ap && z q.al) && e0 q.key && e0 q.tt && z q.lim && z q.parts && ((q.ws.length : Int) + (q.sk.length : Int) == 0)
theorem zeroAsk_calls (q : Rq) (A1 A2 : Option Addr) (c1 c2 : Nat) (w : World) (hl1 : q.ws.length ≤ 9223372036854775807) (hl2 : q.sk.length ≤ 9223372036854775807) :
    Calls Try.prog 24 #[.agg #[.int .i64 q.k, .int .u32 q.bc, .int .u32 q.bn, .int .u64 q.sp, .int .u32 q.sl, .int .u64 q.ap, .int .u32 q.al, .string q.key, .string q.tt, .int .i64 q.lim, .int .u8 q.parts, .slice A1 q.ws.length c1, .slice A2 q.sk.length c2]] w fun e w' => e = .returned (.bool (zq q)) ∧ Below w.heap.size w w' := by
  obtain ⟨k, bc, bn, sp, sl, ap, al, key, tt, lim, parts, ws, sk⟩ := q
  dsimp only at *
  go_enter Try.func24, Try.ntmps24
  go_wp2
  all_goals go_ret
  all_goals refine ⟨?_, below_alloc' (Below.refl _ _) _⟩
  all_goals (simp [zq, z, e0, *] <;> (rw [Bool.eq_iff_iff]; simp only [beq_iff_eq]; unfold wrap64; omega))
def zr (r : Rp) : Bool := z r.k && z r.er && !r.fd && e0 r.val && ((r.ps.length : Int) == 0) && (z r.wc && z r.wn) && (z r.sp && z r.sl) && (z r.ap && z r.al) && e0 r.pr && (z r.np && z r.nl)
theorem zeroReply_calls (r : Rp) (A3 : Option Addr) (c3 : Nat) (w : World) (hl3 : r.ps.length ≤ 9223372036854775807) :
    Calls Try.prog 26 #[.agg #[.int .i64 r.k, .int .i64 r.er, .bool r.fd, .string r.val, .slice A3 r.ps.length c3, .int .u32 r.wc, .int .u32 r.wn, .int .u64 r.sp, .int .u32 r.sl, .int .u64 r.ap, .int .u32 r.al, .string r.pr, .int .u64 r.np, .int .u32 r.nl]] w fun e w' => e = .returned (.bool (zr r)) ∧ Below w.heap.size w w' := by
  obtain ⟨k, er, fd, val, ps, wc, wn, sp, sl, ap, al, pr, np, nl⟩ := r
  dsimp only at *
  go_enter Try.func26, Try.ntmps26
  go_wp2
  all_goals go_ret
  all_goals refine ⟨?_, below_alloc' (Below.refl _ _) _⟩
  all_goals simp [zr, z, e0, *]
/-- A stamp within the limits. -/
def rts (p l : Int) : Bool := decide (p ≤ 281474976710656) && decide (l ≤ 4095)
theorem sright_calls (p l : Int) (w : World) (h : 0 ≤ p ∧ 0 ≤ l) : Calls Try.prog 63 #[.agg #[.int .u64 p, .int .u32 l]] w fun e w' => e = .returned (.bool (rts p l)) ∧ Below w.heap.size w w' := by
  go_enter Try.func63, Try.ntmps63
  go_wp2
  all_goals go_ret
  all_goals refine ⟨?_, below_alloc' (Below.refl _ _) _⟩
  all_goals first | (simp [rts, *]; done) | (simp [rts, *]; omega)
theorem fits_calls (a b : ByteArray) (w : World) : Calls Try.prog 48 #[.string a, .string b] w fun e w' => e = .returned (.bool (decide (a.size ≤ 32) && decide (b.size ≤ 256))) ∧ w' = w := by
  go_enter Try.func48, Try.ntmps48
  go_wp2
  all_goals go_ret
  all_goals refine ⟨?_, rfl⟩
  all_goals have e1 : decide (a.size ≤ 32) = decide ((a.size : Int) ≤ 32) := by rw [Bool.eq_iff_iff]; simp; omega
  all_goals have e2 : decide (b.size ≤ 256) = decide ((b.size : Int) ≤ 256) := by rw [Bool.eq_iff_iff]; simp; omega
  all_goals rw [e1, e2]
  all_goals first | (simp [*]; done) | (simp [*]; omega)
theorem bel_then {w wr w1 : World} (h : Below w.heap.size w wr) (h1 : Below wr.heap.size wr w1) : Below w.heap.size w w1 := h.trans (h1.mono h.size)
theorem bcell {W w1 : World} (hb : Below W.heap.size W w1) : (∀ b o, b < W.heap.size → w1.cell? ⟨b, o, none⟩ = W.cell? ⟨b, o, none⟩) ∧ (∀ b o, b < W.heap.size → w1.frozen? ⟨b, o, none⟩ = W.frozen? ⟨b, o, none⟩) :=
  ⟨fun b o h => hb.cell (p := ⟨b, o, none⟩) h, fun b o h => hb.frozen (p := ⟨b, o, none⟩) h⟩
theorem lt_at {W : World} {k : Nat} {o : Obj} (h : W.heap[k]? = some o) : k < W.heap.size := (Array.getElem?_eq_some_iff.1 h).1
set_option maxRecDepth 100000 in
set_option maxHeartbeats 4000000 in
theorem stamps2_calls (b : Nat) (p0 l0 p1 l1 : Int) (w : World) (h0 : 0 ≤ p0 ∧ 0 ≤ l0) (h1 : 0 ≤ p1 ∧ 0 ≤ l1) (hb : w.heap[b]? = some (.cells #[.int .u64 p0, .int .u32 l0, .int .u64 p1, .int .u32 l1] 27 (0, 0))) :
    Calls Try.prog 49 #[.slice (some ⟨b, 0, none⟩) 2 2] w fun e w' => e = .returned (.bool (rts p0 l0 && rts p1 l1)) ∧ Below w.heap.size w w' := by
  have HBK := Lib.hid hb
  have HLT := Lib.hid (lt_at hb)
  clear hb
  go_enter Try.func49, Try.ntmps49
  go_wp2_with fail
  go_loopg [7] 3 (fun gk v7 wr => ∃ i : Nat, i ≤ 2 ∧ v7 = .int .i64 (i : Int) ∧ Aside0 (i + gk = 3) ∧ Aside0 (Below w.heap.size w wr) ∧ Aside0 ((0 < i → rts p0 l0 = true) ∧ (1 < i → rts p1 l1 = true)))
  case atStart => exact ⟨0, by decide, rfl, ⟨rfl⟩, ⟨Below.refl _ _⟩, ⟨(fun h => by omega), (fun h => by omega)⟩⟩
  case round =>
    obtain ⟨i, hi, rfl, ⟨hg⟩, ⟨hB⟩, ⟨hR⟩⟩ := hrel
    have HG := Lib.hid hg
    have HB := Lib.hid hB
    have HR := Lib.hid hR
    have hb := (hB.block b HLT.out).trans HBK.out
    have a0 : wr.cell? ⟨b, 0, none⟩ = some (.int .u64 p0) := (blk_cell hb 0).trans rfl
    have b0 : wr.cell? ⟨b, 1, none⟩ = some (.int .u32 l0) := (blk_cell hb 1).trans rfl
    have a1 : wr.cell? ⟨b, 2, none⟩ = some (.int .u64 p1) := (blk_cell hb 2).trans rfl
    have b1 : wr.cell? ⟨b, 3, none⟩ = some (.int .u32 l1) := (blk_cell hb 3).trans rfl
    clear hg hB hR hb
    rcases (show i = 0 ∨ i = 1 ∨ i = 2 by omega) with rfl | rfl | rfl
    · cases hr : rts p0 l0 with
      | true =>
        have HR1 := Lib.hid hr
        clear hr
        go_wp2_with fail
        refine (sright_calls p0 l0 _ h0).mono ?_
        rw [HR1.out]
        rintro e w1 ⟨rfl, hB1⟩
        have HB1 := Lib.hid (bel_then (below_alloc' HB.out _) hB1)
        clear hB1
        go_wp2
        go_roundg (gk - 1)
        case measure => have := HG.out; omega
        case rel => exact ⟨1, by decide, by go_num, ⟨by have := HG.out; omega⟩, ⟨HB1.out⟩, ⟨(fun h => HR1.out), (fun h => by omega)⟩⟩
      | false =>
        have HR1 := Lib.hid hr
        clear hr
        go_wp2_with fail
        refine (sright_calls p0 l0 _ h0).mono ?_
        rw [HR1.out]
        rintro e w1 ⟨rfl, hB1⟩
        have HB1 := Lib.hid (bel_then (below_alloc' HB.out _) hB1)
        clear hB1
        go_wp2_with fail
        go_ret
        exact ⟨by simp [HR1.out], HB1.out⟩
    · cases hr : rts p1 l1 with
      | true =>
        have HR1 := Lib.hid hr
        clear hr
        go_wp2_with fail
        refine (sright_calls p1 l1 _ h1).mono ?_
        rw [HR1.out]
        rintro e w1 ⟨rfl, hB1⟩
        have HB1 := Lib.hid (bel_then (below_alloc' HB.out _) hB1)
        clear hB1
        go_wp2
        go_roundg (gk - 1)
        case measure => have := HG.out; omega
        case rel => exact ⟨2, by decide, by go_num, ⟨by have := HG.out; omega⟩, ⟨HB1.out⟩, ⟨(fun h => HR.out.1 (by omega)), (fun h => HR1.out)⟩⟩
      | false =>
        have HR1 := Lib.hid hr
        clear hr
        go_wp2_with fail
        refine (sright_calls p1 l1 _ h1).mono ?_
        rw [HR1.out]
        rintro e w1 ⟨rfl, hB1⟩
        have HB1 := Lib.hid (bel_then (below_alloc' HB.out _) hB1)
        clear hB1
        go_wp2_with fail
        go_ret
        exact ⟨by simp [HR1.out], HB1.out⟩
    · have hr := HR.out
      go_wp2_with fail
      go_ret
      exact ⟨by simp [hr.1 (by decide), hr.2 (by decide)], HB.out⟩
set_option maxRecDepth 100000 in
set_option maxHeartbeats 4000000 in
theorem stamps3_calls (b : Nat) (p0 l0 p1 l1 p2 l2 : Int) (w : World) (h0 : 0 ≤ p0 ∧ 0 ≤ l0) (h1 : 0 ≤ p1 ∧ 0 ≤ l1) (h2 : 0 ≤ p2 ∧ 0 ≤ l2) (hb : w.heap[b]? = some (.cells #[.int .u64 p0, .int .u32 l0, .int .u64 p1, .int .u32 l1, .int .u64 p2, .int .u32 l2] 27 (0, 0))) :
    Calls Try.prog 49 #[.slice (some ⟨b, 0, none⟩) 3 3] w fun e w' => e = .returned (.bool (rts p0 l0 && rts p1 l1 && rts p2 l2)) ∧ Below w.heap.size w w' := by
  have HBK := Lib.hid hb
  have HLT := Lib.hid (lt_at hb)
  clear hb
  go_enter Try.func49, Try.ntmps49
  go_wp2_with fail
  go_loopg [7] 4 (fun gk v7 wr => ∃ i : Nat, i ≤ 3 ∧ v7 = .int .i64 (i : Int) ∧ Aside0 (i + gk = 4) ∧ Aside0 (Below w.heap.size w wr) ∧ Aside0 ((0 < i → rts p0 l0 = true) ∧ (1 < i → rts p1 l1 = true) ∧ (2 < i → rts p2 l2 = true)))
  case atStart => exact ⟨0, by decide, rfl, ⟨rfl⟩, ⟨Below.refl _ _⟩, ⟨(fun h => by omega), (fun h => by omega), (fun h => by omega)⟩⟩
  case round =>
    obtain ⟨i, hi, rfl, ⟨hg⟩, ⟨hB⟩, ⟨hR⟩⟩ := hrel
    have HG := Lib.hid hg
    have HB := Lib.hid hB
    have HR := Lib.hid hR
    have hb := (hB.block b HLT.out).trans HBK.out
    have a0 : wr.cell? ⟨b, 0, none⟩ = some (.int .u64 p0) := (blk_cell hb 0).trans rfl
    have b0 : wr.cell? ⟨b, 1, none⟩ = some (.int .u32 l0) := (blk_cell hb 1).trans rfl
    have a1 : wr.cell? ⟨b, 2, none⟩ = some (.int .u64 p1) := (blk_cell hb 2).trans rfl
    have b1 : wr.cell? ⟨b, 3, none⟩ = some (.int .u32 l1) := (blk_cell hb 3).trans rfl
    have a2 : wr.cell? ⟨b, 4, none⟩ = some (.int .u64 p2) := (blk_cell hb 4).trans rfl
    have b2 : wr.cell? ⟨b, 5, none⟩ = some (.int .u32 l2) := (blk_cell hb 5).trans rfl
    clear hg hB hR hb
    rcases (show i = 0 ∨ i = 1 ∨ i = 2 ∨ i = 3 by omega) with rfl | rfl | rfl | rfl
    · cases hr : rts p0 l0 with
      | true =>
        have HR1 := Lib.hid hr
        clear hr
        go_wp2_with fail
        refine (sright_calls p0 l0 _ h0).mono ?_
        rw [HR1.out]
        rintro e w1 ⟨rfl, hB1⟩
        have HB1 := Lib.hid (bel_then (below_alloc' HB.out _) hB1)
        clear hB1
        go_wp2
        go_roundg (gk - 1)
        case measure => have := HG.out; omega
        case rel => exact ⟨1, by decide, by go_num, ⟨by have := HG.out; omega⟩, ⟨HB1.out⟩, ⟨(fun h => HR1.out), (fun h => by omega), (fun h => by omega)⟩⟩
      | false =>
        have HR1 := Lib.hid hr
        clear hr
        go_wp2_with fail
        refine (sright_calls p0 l0 _ h0).mono ?_
        rw [HR1.out]
        rintro e w1 ⟨rfl, hB1⟩
        have HB1 := Lib.hid (bel_then (below_alloc' HB.out _) hB1)
        clear hB1
        go_wp2_with fail
        go_ret
        exact ⟨by simp [HR1.out], HB1.out⟩
    · cases hr : rts p1 l1 with
      | true =>
        have HR1 := Lib.hid hr
        clear hr
        go_wp2_with fail
        refine (sright_calls p1 l1 _ h1).mono ?_
        rw [HR1.out]
        rintro e w1 ⟨rfl, hB1⟩
        have HB1 := Lib.hid (bel_then (below_alloc' HB.out _) hB1)
        clear hB1
        go_wp2
        go_roundg (gk - 1)
        case measure => have := HG.out; omega
        case rel => exact ⟨2, by decide, by go_num, ⟨by have := HG.out; omega⟩, ⟨HB1.out⟩, ⟨(fun h => HR.out.1 (by omega)), (fun h => HR1.out), (fun h => by omega)⟩⟩
      | false =>
        have HR1 := Lib.hid hr
        clear hr
        go_wp2_with fail
        refine (sright_calls p1 l1 _ h1).mono ?_
        rw [HR1.out]
        rintro e w1 ⟨rfl, hB1⟩
        have HB1 := Lib.hid (bel_then (below_alloc' HB.out _) hB1)
        clear hB1
        go_wp2_with fail
        go_ret
        exact ⟨by simp [HR1.out], HB1.out⟩
    · cases hr : rts p2 l2 with
      | true =>
        have HR1 := Lib.hid hr
        clear hr
        go_wp2_with fail
        refine (sright_calls p2 l2 _ h2).mono ?_
        rw [HR1.out]
        rintro e w1 ⟨rfl, hB1⟩
        have HB1 := Lib.hid (bel_then (below_alloc' HB.out _) hB1)
        clear hB1
        go_wp2
        go_roundg (gk - 1)
        case measure => have := HG.out; omega
        case rel => exact ⟨3, by decide, by go_num, ⟨by have := HG.out; omega⟩, ⟨HB1.out⟩, ⟨(fun h => HR.out.1 (by omega)), (fun h => HR.out.2.1 (by omega)), (fun h => HR1.out)⟩⟩
      | false =>
        have HR1 := Lib.hid hr
        clear hr
        go_wp2_with fail
        refine (sright_calls p2 l2 _ h2).mono ?_
        rw [HR1.out]
        rintro e w1 ⟨rfl, hB1⟩
        have HB1 := Lib.hid (bel_then (below_alloc' HB.out _) hB1)
        clear hB1
        go_wp2_with fail
        go_ret
        exact ⟨by simp [HR1.out], HB1.out⟩
    · have hr := HR.out
      go_wp2_with fail
      go_ret
      exact ⟨by simp [hr.1 (by decide), hr.2.1 (by decide), hr.2.2 (by decide)], HB.out⟩
end Go.Proofs.Ytjfokbkfniilhaa

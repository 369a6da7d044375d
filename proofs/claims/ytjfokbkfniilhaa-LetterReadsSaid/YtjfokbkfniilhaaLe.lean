/- Letters that are right. Conditions: those that each theorem names. -/
import Derived.Test.YtjfokbkfniilhaaLd
set_option linter.unusedVariables false
set_option linter.unusedSimpArgs false
namespace Go.Proofs.Ytjfokbkfniilhaa
open Go.RowKit Go.Proofs.YtjfokbkfniilhaaW.PrintWords Go.Proofs.Ytjfokbkfniilhaa.PLa

/-- What a letter's types demand, and that its lists are not too long. -/
structure LOk (l : Lt) : Prop where
  cl : U32 l.cl
  sh : U32 l.sh
  sq : U32 l.sq
  q : QOk l.q
  r : POk l.r
def rightR (l : Lt) : Bool := if 4 ≤ l.cl then false else if 8 ≤ l.sh then false else if l.an = true then zq l.q && replyR l.r else zr l.r && askR l.q
set_option maxRecDepth 100000 in
set_option maxHeartbeats 8000000 in
theorem right_calls (l : Lt) (A1 A2 A3 : Option Addr) (c1 c2 c3 : Nat) (w : World) (hl : LOk l) (h1 : Kd.C k66 w A1 l.q.ws.length l.q.ws) (h3 : Kd.C k68 w A3 l.r.ps.length l.r.ps) :
    Calls Try.prog 9 #[.agg #[.int .u32 l.cl, .int .u32 l.sh, .int .u32 l.sq, .bool l.an, .int .i64 l.q.k, .int .u32 l.q.bc, .int .u32 l.q.bn, .int .u64 l.q.sp, .int .u32 l.q.sl, .int .u64 l.q.ap, .int .u32 l.q.al, .string l.q.key, .string l.q.tt, .int .i64 l.q.lim, .int .u8 l.q.parts, .slice A1 l.q.ws.length c1, .slice A2 l.q.sk.length c2, .int .i64 l.r.k, .int .i64 l.r.er, .bool l.r.fd, .string l.r.val, .slice A3 l.r.ps.length c3, .int .u32 l.r.wc, .int .u32 l.r.wn, .int .u64 l.r.sp, .int .u32 l.r.sl, .int .u64 l.r.ap, .int .u32 l.r.al, .string l.r.pr, .int .u64 l.r.np, .int .u32 l.r.nl]] w fun e w' => e = .returned (.bool (rightR l)) ∧ Below w.heap.size w w' := by
  have HX0 := Lib.hid (heap_alloc_new w (.cells #[.int .u32 l.cl, .int .u32 l.sh, .int .u32 l.sq, .bool l.an, .int .i64 l.q.k, .int .u32 l.q.bc, .int .u32 l.q.bn, .int .u64 l.q.sp, .int .u32 l.q.sl, .int .u64 l.q.ap, .int .u32 l.q.al, .string l.q.key, .string l.q.tt, .int .i64 l.q.lim, .int .u8 l.q.parts, .slice A1 l.q.ws.length c1, .slice A2 l.q.sk.length c2, .int .i64 l.r.k, .int .i64 l.r.er, .bool l.r.fd, .string l.r.val, .slice A3 l.r.ps.length c3, .int .u32 l.r.wc, .int .u32 l.r.wn, .int .u64 l.r.sp, .int .u32 l.r.sl, .int .u64 l.r.ap, .int .u32 l.r.al, .string l.r.pr, .int .u64 l.r.np, .int .u32 l.r.nl] 37))
  have HB0 := Lib.hid (below_alloc' (Below.refl _ w) (.cells #[.int .u32 l.cl, .int .u32 l.sh, .int .u32 l.sq, .bool l.an, .int .i64 l.q.k, .int .u32 l.q.bc, .int .u32 l.q.bn, .int .u64 l.q.sp, .int .u32 l.q.sl, .int .u64 l.q.ap, .int .u32 l.q.al, .string l.q.key, .string l.q.tt, .int .i64 l.q.lim, .int .u8 l.q.parts, .slice A1 l.q.ws.length c1, .slice A2 l.q.sk.length c2, .int .i64 l.r.k, .int .i64 l.r.er, .bool l.r.fd, .string l.r.val, .slice A3 l.r.ps.length c3, .int .u32 l.r.wc, .int .u32 l.r.wn, .int .u64 l.r.sp, .int .u32 l.r.sl, .int .u64 l.r.ap, .int .u32 l.r.al, .string l.r.pr, .int .u64 l.r.np, .int .u32 l.r.nl] 37))
  have HZQ := Lib.hid (fun W => zeroAsk_calls l.q A1 A2 c1 c2 W hl.q.ws hl.q.sk)
  have HZR := Lib.hid (fun W => zeroReply_calls l.r A3 c3 W hl.r.ps)
  have HAS := Lib.hid (fun W (hb : Below w.heap.size w W) => ask_calls l.q A1 A2 c1 c2 W hl.q (Kd.C_below h1 hb))
  have HRE := Lib.hid (fun W (hb : Below w.heap.size w W) => reply_calls l.r A3 c3 W hl.r (Kd.C_below h3 hb))
  have HR : Hid (rightR l = if 4 ≤ l.cl then false else if 8 ≤ l.sh then false else if l.an = true then zq l.q && replyR l.r else zr l.r && askR l.q) := rfl
  have hcl := hl.cl.1
  have hsh := hl.sh.1
  clear hl h1 h3
  obtain ⟨cl, sh, sq, an, q, r⟩ := l
  dsimp only at *
  generalize hzq : zq q = bzq at *
  generalize hzr : zr r = bzr at *
  generalize has : askR q = bas at *
  generalize hre : replyR r = bre at *
  obtain ⟨k, bc, bn, sp, sl, ap, al, key, tt, lim, parts, ws, sk⟩ := q
  obtain ⟨rk, er, fd, val, ps, wc, wn, rsp, rsl, rap, ral, pr, np, nl⟩ := r
  dsimp only at *
  clear hzq hzr has hre
  rcases (show 4 ≤ cl ∨ (cl < 4 ∧ 8 ≤ sh) ∨ (cl < 4 ∧ sh < 8) by omega) with h | ⟨h, h'⟩ | ⟨h, h'⟩
  · rw [if_pos h] at HR
    go_enter Try.func9, Try.ntmps9
    go_wp2_with fail
    go_ret
    exact ⟨by rw [HR.out]; rfl, HB0.out⟩
  · rw [if_neg (by omega), if_pos h'] at HR
    go_enter Try.func9, Try.ntmps9
    go_wp2_with fail
    go_ret
    exact ⟨by rw [HR.out]; rfl, HB0.out⟩
  · rw [if_neg (by omega), if_neg (by omega)] at HR
    cases an with
    | true =>
      go_enter Try.func9, Try.ntmps9
      go_wp2_with fail
      refine (HZQ.out _).mono ?_
      rintro e w1 ⟨rfl, hB1⟩
      obtain ⟨hc1, hf1⟩ := bcell hB1
      have hz0 : w.heap.size < (w.alloc (.cells #[.int .u32 cl, .int .u32 sh, .int .u32 sq, .bool true, .int .i64 k, .int .u32 bc, .int .u32 bn, .int .u64 sp, .int .u32 sl, .int .u64 ap, .int .u32 al, .string key, .string tt, .int .i64 lim, .int .u8 parts, .slice A1 ws.length c1, .slice A2 sk.length c2, .int .i64 rk, .int .i64 er, .bool fd, .string val, .slice A3 ps.length c3, .int .u32 wc, .int .u32 wn, .int .u64 rsp, .int .u32 rsl, .int .u64 rap, .int .u32 ral, .string pr, .int .u64 np, .int .u32 nl] 37)).heap.size := lt_at HX0.out
      have hz1 : w.heap.size < w1.heap.size := Nat.lt_of_lt_of_le (lt_at HX0.out) hB1.size
      have HB2 := Lib.hid (bel_then HB0.out hB1)
      clear hB1
      cases bzq with
      | false =>
        go_wp2_with fail
        go_ret
        exact ⟨by rw [HR.out]; rfl, HB2.out⟩
      | true =>
        go_wp2_with fail
        refine (HRE.out _ HB2.out).mono ?_
        rintro e w2 ⟨rfl, hB3⟩
        have HB3 := Lib.hid (bel_then HB2.out hB3)
        clear hB3
        go_wp2_with fail
        go_ret
        exact ⟨by rw [HR.out]; rfl, HB3.out⟩
    | false =>
      go_enter Try.func9, Try.ntmps9
      go_wp2_with fail
      refine (HZR.out _).mono ?_
      rintro e w1 ⟨rfl, hB1⟩
      obtain ⟨hc1, hf1⟩ := bcell hB1
      have hz0 : w.heap.size < (w.alloc (.cells #[.int .u32 cl, .int .u32 sh, .int .u32 sq, .bool false, .int .i64 k, .int .u32 bc, .int .u32 bn, .int .u64 sp, .int .u32 sl, .int .u64 ap, .int .u32 al, .string key, .string tt, .int .i64 lim, .int .u8 parts, .slice A1 ws.length c1, .slice A2 sk.length c2, .int .i64 rk, .int .i64 er, .bool fd, .string val, .slice A3 ps.length c3, .int .u32 wc, .int .u32 wn, .int .u64 rsp, .int .u32 rsl, .int .u64 rap, .int .u32 ral, .string pr, .int .u64 np, .int .u32 nl] 37)).heap.size := lt_at HX0.out
      have hz1 : w.heap.size < w1.heap.size := Nat.lt_of_lt_of_le (lt_at HX0.out) hB1.size
      have HB2 := Lib.hid (bel_then HB0.out hB1)
      clear hB1
      cases bzr with
      | false =>
        go_wp2_with fail
        go_ret
        exact ⟨by rw [HR.out]; rfl, HB2.out⟩
      | true =>
        go_wp2_with fail
        refine (HAS.out _ HB2.out).mono ?_
        rintro e w2 ⟨rfl, hB3⟩
        have HB3 := Lib.hid (bel_then HB2.out hB3)
        clear hB3
        go_wp2_with fail
        go_ret
        exact ⟨by rw [HR.out]; rfl, HB3.out⟩
end Go.Proofs.Ytjfokbkfniilhaa

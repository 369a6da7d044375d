/- letter.Write: which letters it writes, and how. Conditions: those that each theorem names. -/
import Derived.Test.YtjfokbkfniilhaaLf
import Derived.Laws.Rows
set_option linter.unusedVariables false
set_option linter.unusedSimpArgs false
namespace Go.Proofs.Ytjfokbkfniilhaa
open Go.RowKit Go.Proofs.YtjfokbkfniilhaaW.PrintWords Go.Proofs.Ytjfokbkfniilhaa.PLa

def encL (l : Lt) : ByteArray := encB l.cl ++ encB l.sh ++ encB l.sq ++ encF l.an ++ (if l.an = true then encRep l.r else encAsk l.q)
def writeR (l : Lt) : ByteArray × Int := if rightR l = true then (encL l, 0) else (⟨#[]⟩, 1)
def acc : Nat → Int → Int → Int → ByteArray
  | 0, _, _, _ => ByteArray.empty
  | 1, a, _, _ => ByteArray.empty ++ encB a
  | 2, a, b, _ => ByteArray.empty ++ encB a ++ encB b
  | _, a, b, c => ByteArray.empty ++ encB a ++ encB b ++ encB c
theorem acc_0 (a b c : Int) : acc 0 a b c = ByteArray.empty := rfl
theorem acc_1 (a b c : Int) : acc 1 a b c = acc 0 a b c ++ encB a := rfl
theorem acc_2 (a b c : Int) : acc 2 a b c = acc 1 a b c ++ encB b := rfl
theorem acc_3 (a b c : Int) : acc 3 a b c = acc 2 a b c ++ encB c := rfl
theorem acc_size (i : Nat) (a b c : Int) (hi : i ≤ 3) (ha : 0 ≤ a ∧ a ≤ 18446744073709551615) (hb : 0 ≤ b ∧ b ≤ 18446744073709551615) (hc : 0 ≤ c ∧ c ≤ 18446744073709551615) : (acc i a b c).size ≤ 27 := by
  have h1 := bz a ha
  have h2 := bz b hb
  have h3 := bz c hc
  rcases (show i = 0 ∨ i = 1 ∨ i = 2 ∨ i = 3 by omega) with rfl | rfl | rfl | rfl <;> simp only [acc, ByteArray.size_append, ByteArray.size_empty] <;> omega
set_option maxRecDepth 100000 in
set_option maxHeartbeats 16000000 in
theorem write_calls (l : Lt) (A1 A2 A3 : Option Addr) (c1 c2 c3 : Nat) (w : World) (hl : LOk l) (h1 : Kd.C k66 w A1 l.q.ws.length l.q.ws) (h2 : Kd.C k24 w A2 l.q.sk.length l.q.sk) (h3 : Kd.C k68 w A3 l.r.ps.length l.r.ps) :
    Calls Try.prog 7 #[.agg #[.int .u32 l.cl, .int .u32 l.sh, .int .u32 l.sq, .bool l.an, .int .i64 l.q.k, .int .u32 l.q.bc, .int .u32 l.q.bn, .int .u64 l.q.sp, .int .u32 l.q.sl, .int .u64 l.q.ap, .int .u32 l.q.al, .string l.q.key, .string l.q.tt, .int .i64 l.q.lim, .int .u8 l.q.parts, .slice A1 l.q.ws.length c1, .slice A2 l.q.sk.length c2, .int .i64 l.r.k, .int .i64 l.r.er, .bool l.r.fd, .string l.r.val, .slice A3 l.r.ps.length c3, .int .u32 l.r.wc, .int .u32 l.r.wn, .int .u64 l.r.sp, .int .u32 l.r.sl, .int .u64 l.r.ap, .int .u32 l.r.al, .string l.r.pr, .int .u64 l.r.np, .int .u32 l.r.nl]] w fun e w' => e = .returned (.tuple #[.string (writeR l).1, .int .i64 (writeR l).2]) ∧ Below w.heap.size w w' := by
  have HRI := Lib.hid (fun W (hb : Below w.heap.size w W) => right_calls l A1 A2 A3 c1 c2 c3 W hl (Kd.C_below h1 hb) (Kd.C_below h3 hb))
  have HAS := Lib.hid (fun (ha : askR l.q = true) W g s (hs : s.size ≤ 1000) (hI : IsS53 w W g s) (hB : Below w.heap.size w W) => wputAsk w W g s l.q A1 A2 c1 c2 hl.q ha h1 h2 hs hI hB)
  have HRE := Lib.hid (fun (ha : replyR l.r = true) W g s (hs : s.size ≤ 1000) (hI : IsS53 w W g s) (hB : Below w.heap.size w W) => wputReply w W g s l.r A3 c3 hl.r ha h3 hs hI hB)
  obtain ⟨hcl1, hcl2⟩ := hl.cl
  obtain ⟨hsh1, hsh2⟩ := hl.sh
  obtain ⟨hsq1, hsq2⟩ := hl.sq
  clear hl h1 h2 h3
  have HRR : Hid (∀ b, rightR l = b → b = true → if l.an = true then replyR l.r = true else askR l.q = true) := Lib.hid (by
    intro b hb e
    rw [e] at hb
    unfold rightR at hb
    split at hb
    · cases hb
    · split at hb
      · cases hb
      · split at hb
        · rename_i h; rw [if_pos h]; simp only [Bool.and_eq_true] at hb; exact hb.2
        · rename_i h; rw [if_neg h]; simp only [Bool.and_eq_true] at hb; exact hb.2)
  have HWR : Hid (writeR l = if rightR l = true then (encL l, 0) else (⟨#[]⟩, 1)) := rfl
  obtain ⟨cl, sh, sq, an, q, r⟩ := l
  dsimp only at *
  generalize hri : rightR ⟨cl, sh, sq, an, q, r⟩ = bri at *
  have HRR2 := Lib.hid (HRR.out bri rfl)
  clear HRR
  generalize hask : askR q = bask at *
  generalize hrep : replyR r = brep at *
  clear hri hask hrep
  obtain ⟨k, bc, bn, sp, sl, ap, al, key, tt, lim, parts, ws, sk⟩ := q
  obtain ⟨rk, er, fd, val, ps, wc, wn, rsp, rsl, rap, ral, pr, np, nl⟩ := r
  dsimp only at *
  have HX0 := Lib.hid (heap_alloc_new w (.cells #[.int .u32 cl, .int .u32 sh, .int .u32 sq, .bool an, .int .i64 k, .int .u32 bc, .int .u32 bn, .int .u64 sp, .int .u32 sl, .int .u64 ap, .int .u32 al, .string key, .string tt, .int .i64 lim, .int .u8 parts, .slice A1 ws.length c1, .slice A2 sk.length c2, .int .i64 rk, .int .i64 er, .bool fd, .string val, .slice A3 ps.length c3, .int .u32 wc, .int .u32 wn, .int .u64 rsp, .int .u32 rsl, .int .u64 rap, .int .u32 ral, .string pr, .int .u64 np, .int .u32 nl] 37))
  have HB0 := Lib.hid (below_alloc' (Below.refl _ w) (.cells #[.int .u32 cl, .int .u32 sh, .int .u32 sq, .bool an, .int .i64 k, .int .u32 bc, .int .u32 bn, .int .u64 sp, .int .u32 sl, .int .u64 ap, .int .u32 al, .string key, .string tt, .int .i64 lim, .int .u8 parts, .slice A1 ws.length c1, .slice A2 sk.length c2, .int .i64 rk, .int .i64 er, .bool fd, .string val, .slice A3 ps.length c3, .int .u32 wc, .int .u32 wn, .int .u64 rsp, .int .u32 rsl, .int .u64 rap, .int .u32 ral, .string pr, .int .u64 np, .int .u32 nl] 37))
  go_enter Try.func7, Try.ntmps7
  go_wp2_with (refine wpList_load_row rfl 37 (.tmp 1) rfl w.heap.size rfl 37 _ (0, 0) _ HX0.out Try.underlying37 rfl (by kernel_rfl) ?_)
  refine (HRI.out _ HB0.out).mono ?_
  rintro e w1 ⟨rfl, hB1⟩
  have HB1 := Lib.hid (bel_then HB0.out hB1)
  have HX1 := Lib.hid ((hB1.block _ (lt_at HX0.out)).trans HX0.out)
  clear hB1 HB0 HX0 HRI
  generalize (Value.agg #[.int .u32 cl, .int .u32 sh, .int .u32 sq, .bool an, .int .i64 k, .int .u32 bc, .int .u32 bn, .int .u64 sp, .int .u32 sl, .int .u64 ap, .int .u32 al, .string key, .string tt, .int .i64 lim, .int .u8 parts, .slice A1 ws.length c1, .slice A2 sk.length c2, .int .i64 rk, .int .i64 er, .bool fd, .string val, .slice A3 ps.length c3, .int .u32 wc, .int .u32 wn, .int .u64 rsp, .int .u32 rsl, .int .u64 rap, .int .u32 ral, .string pr, .int .u64 np, .int .u32 nl]) = vg
  cases bri with
  | false =>
    as_aux_lemma =>
      have HR : Hid (writeR ⟨cl, sh, sq, an, ⟨k, bc, bn, sp, sl, ap, al, key, tt, lim, parts, ws, sk⟩, ⟨rk, er, fd, val, ps, wc, wn, rsp, rsl, rap, ral, pr, np, nl⟩⟩ = (⟨#[]⟩, 1)) := HWR
      go_wp2_with fail
      go_ret2
      exact ⟨by rw [HR.out]; rfl, HB1.out⟩
  | true =>
    as_aux_lemma =>
      have HR : Hid (writeR ⟨cl, sh, sq, an, ⟨k, bc, bn, sp, sl, ap, al, key, tt, lim, parts, ws, sk⟩, ⟨rk, er, fd, val, ps, wc, wn, rsp, rsl, rap, ral, pr, np, nl⟩⟩ = (encL ⟨cl, sh, sq, an, ⟨k, bc, bn, sp, sl, ap, al, key, tt, lim, parts, ws, sk⟩, ⟨rk, er, fd, val, ps, wc, wn, rsp, rsl, rap, ral, pr, np, nl⟩⟩, 0)) := HWR
      have x0 := (blk_cell HX1.out 0).trans (show _ = some (.int .u32 cl) from rfl)
      have x1 := (blk_cell HX1.out 1).trans (show _ = some (.int .u32 sh) from rfl)
      have x2 := (blk_cell HX1.out 2).trans (show _ = some (.int .u32 sq) from rfl)
      have hlx := lt_at HX1.out
      obtain ⟨g, hg⟩ : ∃ g, g = w1.heap.size := ⟨_, rfl⟩
      have HGE := Lib.hid hg
      have HI2 : Hid (IsS53 w ((w1.alloc (.cells #[.slice none 0 0] 53)).alloc (.cells #[.int .u32 cl, .int .u32 sh, .int .u32 sq] 22)) g (acc 0 cl sh sq)) := Lib.hid (by rw [hg, acc_0]; exact (IsS53.made w w1 HB1.out.size).alloc _)
      have HB2 := Lib.hid (below_alloc' (below_alloc' HB1.out (.cells #[.slice none 0 0] 53)) (.cells #[.int .u32 cl, .int .u32 sh, .int .u32 sq] 22))
      have HX2 := Lib.hid (((below_alloc' (below_alloc (Below.refl _ w1) (.cells #[.slice none 0 0] 53)) (.cells #[.int .u32 cl, .int .u32 sh, .int .u32 sq] 22)).block _ (lt_at HX1.out)).trans HX1.out)
      have HY2 : Hid (((w1.alloc (.cells #[.slice none 0 0] 53)).alloc (.cells #[.int .u32 cl, .int .u32 sh, .int .u32 sq] 22)).heap[g + 1]? = some (.cells #[.int .u32 cl, .int .u32 sh, .int .u32 sq] 22 (0, 0))) := Lib.hid (by
        have h := heap_alloc_new (w1.alloc (.cells #[.slice none 0 0] 53)) (.cells #[.int .u32 cl, .int .u32 sh, .int .u32 sq] 22)
        have e : (w1.alloc (.cells #[.slice none 0 0] 53)).heap.size = g + 1 := by rw [hg]; simp
        rw [e] at h
        exact h)
      have HNX : Hid (w.heap.size ≠ g) := Lib.hid (by have := lt_at HX1.out; omega)
      go_wp2_with fail
      rw [← hg]
      clear hg x0 x1 x2 hlx HB1 HX1
      go_loopg [20] 4 (fun gk v20 wr => ∃ i : Nat, i ≤ 3 ∧ v20 = .int .i64 (i : Int) ∧ Aside0 (i + gk = 4) ∧ Aside0 (IsS53 w wr g (acc i cl sh sq) ∧ Below w.heap.size w wr ∧ wr.heap[w.heap.size]? = some (.cells #[.int .u32 cl, .int .u32 sh, .int .u32 sq, .bool an, .int .i64 k, .int .u32 bc, .int .u32 bn, .int .u64 sp, .int .u32 sl, .int .u64 ap, .int .u32 al, .string key, .string tt, .int .i64 lim, .int .u8 parts, .slice A1 ws.length c1, .slice A2 sk.length c2, .int .i64 rk, .int .i64 er, .bool fd, .string val, .slice A3 ps.length c3, .int .u32 wc, .int .u32 wn, .int .u64 rsp, .int .u32 rsl, .int .u64 rap, .int .u32 ral, .string pr, .int .u64 np, .int .u32 nl] 37 (0, 0)) ∧ wr.heap[g + 1]? = some (.cells #[.int .u32 cl, .int .u32 sh, .int .u32 sq] 22 (0, 0))))
      case atStart => exact ⟨0, by decide, rfl, ⟨rfl⟩, ⟨HI2.out, HB2.out, HX2.out, HY2.out⟩⟩
      case round =>
      obtain ⟨i, hi, rfl, ⟨hgk⟩, ⟨hI, hB, hX, hY⟩⟩ := hrel
      have HG := Lib.hid hgk
      have HI := Lib.hid hI
      have HB := Lib.hid hB
      have HX := Lib.hid hX
      have HY := Lib.hid hY
      clear hgk hI hB hX hY HI2 HB2 HX2 HY2
      rcases (show i = 0 ∨ i = 1 ∨ i = 2 ∨ i = 3 by omega) with rfl | rfl | rfl | rfl
      · as_aux_lemma =>
          have hy := HY.out
          have y0 : wr.cell? ⟨g + 1, 0, none⟩ = some (.int .u32 cl) := (blk_cell hy 0).trans rfl
          have y1 : wr.cell? ⟨g + 1, 1, none⟩ = some (.int .u32 sh) := (blk_cell hy 1).trans rfl
          have y2 : wr.cell? ⟨g + 1, 2, none⟩ = some (.int .u32 sq) := (blk_cell hy 2).trans rfl
          clear hy
          go_wp2_with fail
          refine (wnum w _ g _ cl (by omega) (by omega) HI.out HB.out (by show (acc 0 cl sh sq).size + 9 ≤ _; have := acc_size 0 cl sh sq (by omega) ⟨by omega, by omega⟩ ⟨by omega, by omega⟩ ⟨by omega, by omega⟩; omega)).mono ?_
          rintro e w3 ⟨rfl, hI, hB, hK⟩
          have HX3 := Lib.hid ((KeepW.block hK HI.out w.heap.size HNX.out HX.out (by decide)).trans HX.out)
          have HY3 := Lib.hid ((KeepW.block hK HI.out (g + 1) (by omega) HY.out (by decide)).trans HY.out)
          have HI3 : Hid (IsS53 w w3 g (acc 1 cl sh sq)) := Lib.hid (by rw [acc_1]; exact hI)
          have HB3 := Lib.hid hB
          clear hI hB hK
          go_wp2
          go_roundg (gk - 1)
          case measure => have := HG.out; omega
          case rel => exact ⟨1, by decide, by go_num, ⟨by have := HG.out; omega⟩, ⟨HI3.out, HB3.out, HX3.out, HY3.out⟩⟩
      · as_aux_lemma =>
          have hy := HY.out
          have y0 : wr.cell? ⟨g + 1, 0, none⟩ = some (.int .u32 cl) := (blk_cell hy 0).trans rfl
          have y1 : wr.cell? ⟨g + 1, 1, none⟩ = some (.int .u32 sh) := (blk_cell hy 1).trans rfl
          have y2 : wr.cell? ⟨g + 1, 2, none⟩ = some (.int .u32 sq) := (blk_cell hy 2).trans rfl
          clear hy
          go_wp2_with fail
          refine (wnum w _ g _ sh (by omega) (by omega) HI.out HB.out (by show (acc 1 cl sh sq).size + 9 ≤ _; have := acc_size 1 cl sh sq (by omega) ⟨by omega, by omega⟩ ⟨by omega, by omega⟩ ⟨by omega, by omega⟩; omega)).mono ?_
          rintro e w3 ⟨rfl, hI, hB, hK⟩
          have HX3 := Lib.hid ((KeepW.block hK HI.out w.heap.size HNX.out HX.out (by decide)).trans HX.out)
          have HY3 := Lib.hid ((KeepW.block hK HI.out (g + 1) (by omega) HY.out (by decide)).trans HY.out)
          have HI3 : Hid (IsS53 w w3 g (acc 2 cl sh sq)) := Lib.hid (by rw [acc_2]; exact hI)
          have HB3 := Lib.hid hB
          clear hI hB hK
          go_wp2
          go_roundg (gk - 1)
          case measure => have := HG.out; omega
          case rel => exact ⟨2, by decide, by go_num, ⟨by have := HG.out; omega⟩, ⟨HI3.out, HB3.out, HX3.out, HY3.out⟩⟩
      · as_aux_lemma =>
          have hy := HY.out
          have y0 : wr.cell? ⟨g + 1, 0, none⟩ = some (.int .u32 cl) := (blk_cell hy 0).trans rfl
          have y1 : wr.cell? ⟨g + 1, 1, none⟩ = some (.int .u32 sh) := (blk_cell hy 1).trans rfl
          have y2 : wr.cell? ⟨g + 1, 2, none⟩ = some (.int .u32 sq) := (blk_cell hy 2).trans rfl
          clear hy
          go_wp2_with fail
          refine (wnum w _ g _ sq (by omega) (by omega) HI.out HB.out (by show (acc 2 cl sh sq).size + 9 ≤ _; have := acc_size 2 cl sh sq (by omega) ⟨by omega, by omega⟩ ⟨by omega, by omega⟩ ⟨by omega, by omega⟩; omega)).mono ?_
          rintro e w3 ⟨rfl, hI, hB, hK⟩
          have HX3 := Lib.hid ((KeepW.block hK HI.out w.heap.size HNX.out HX.out (by decide)).trans HX.out)
          have HY3 := Lib.hid ((KeepW.block hK HI.out (g + 1) (by omega) HY.out (by decide)).trans HY.out)
          have HI3 : Hid (IsS53 w w3 g (acc 3 cl sh sq)) := Lib.hid (by rw [acc_3]; exact hI)
          have HB3 := Lib.hid hB
          clear hI hB hK
          go_wp2
          go_roundg (gk - 1)
          case measure => have := HG.out; omega
          case rel => exact ⟨3, by decide, by go_num, ⟨by have := HG.out; omega⟩, ⟨HI3.out, HB3.out, HX3.out, HY3.out⟩⟩
      · as_aux_lemma =>
          have x3 := (blk_cell HX.out 3).trans (show _ = some (.bool an) from rfl)
          go_wp2_with fail
          refine (wflag w _ g _ an HI.out HB.out (by have := acc_size 3 cl sh sq (by omega) ⟨by omega, by omega⟩ ⟨by omega, by omega⟩ ⟨by omega, by omega⟩; omega)).mono ?_
          rintro e w4 ⟨rfl, hI, hB, hK⟩
          have HX4 := Lib.hid ((KeepW.block hK HI.out w.heap.size HNX.out HX.out (by decide)).trans HX.out)
          have HI4 := Lib.hid hI
          have HB4 := Lib.hid hB
          clear hI hB hK x3
          have HI4z : (acc 3 cl sh sq ++ encF an).size ≤ 1000 := by
            have h1 := acc_size 3 cl sh sq (by omega) ⟨by omega, by omega⟩ ⟨by omega, by omega⟩ ⟨by omega, by omega⟩
            rw [ByteArray.size_append, encF_size]
            omega
          have hrr := HRR2.out trivial
          clear HX HI HB HY
          cases an with
            | true =>
              as_aux_lemma =>
                have d3 := (blk_cell HX4.out 3).trans (show _ = some (.bool true) from rfl)
                have d17 := (blk_cell HX4.out 17).trans (show _ = some (.int .i64 rk) from rfl)
                have d18 := (blk_cell HX4.out 18).trans (show _ = some (.int .i64 er) from rfl)
                have d19 := (blk_cell HX4.out 19).trans (show _ = some (.bool fd) from rfl)
                have d20 := (blk_cell HX4.out 20).trans (show _ = some (.string val) from rfl)
                have d21 := (blk_cell HX4.out 21).trans (show _ = some (.slice A3 ps.length c3) from rfl)
                have d22 := (blk_cell HX4.out 22).trans (show _ = some (.int .u32 wc) from rfl)
                have d23 := (blk_cell HX4.out 23).trans (show _ = some (.int .u32 wn) from rfl)
                have d24 := (blk_cell HX4.out 24).trans (show _ = some (.int .u64 rsp) from rfl)
                have d25 := (blk_cell HX4.out 25).trans (show _ = some (.int .u32 rsl) from rfl)
                have d26 := (blk_cell HX4.out 26).trans (show _ = some (.int .u64 rap) from rfl)
                have d27 := (blk_cell HX4.out 27).trans (show _ = some (.int .u32 ral) from rfl)
                have d28 := (blk_cell HX4.out 28).trans (show _ = some (.string pr) from rfl)
                have d29 := (blk_cell HX4.out 29).trans (show _ = some (.int .u64 np) from rfl)
                have d30 := (blk_cell HX4.out 30).trans (show _ = some (.int .u32 nl) from rfl)
                go_wp2_with fail
                refine (HRE.out hrr w4 g _ HI4z HI4.out HB4.out).mono ?_
                rintro e w5 ⟨rfl, hI, hB, hK⟩
                have HI5 := Lib.hid hI
                have HB5 := Lib.hid hB
                clear hI hB hK
                go_wp2_with fail
                refine (wbytes w _ g _ HI5.out HB5.out).mono ?_
                rintro e w6 ⟨rfl, hI, hB, hK⟩
                have HB6 := Lib.hid hB
                clear hI hB hK
                go_wp2_with fail
                go_ret2
                exact ⟨by rw [HR.out]; simp [encL, acc, ByteArray.append_assoc], HB6.out⟩
            | false =>
              as_aux_lemma =>
                have d3 := (blk_cell HX4.out 3).trans (show _ = some (.bool false) from rfl)
                have d4 := (blk_cell HX4.out 4).trans (show _ = some (.int .i64 k) from rfl)
                have d5 := (blk_cell HX4.out 5).trans (show _ = some (.int .u32 bc) from rfl)
                have d6 := (blk_cell HX4.out 6).trans (show _ = some (.int .u32 bn) from rfl)
                have d7 := (blk_cell HX4.out 7).trans (show _ = some (.int .u64 sp) from rfl)
                have d8 := (blk_cell HX4.out 8).trans (show _ = some (.int .u32 sl) from rfl)
                have d9 := (blk_cell HX4.out 9).trans (show _ = some (.int .u64 ap) from rfl)
                have d10 := (blk_cell HX4.out 10).trans (show _ = some (.int .u32 al) from rfl)
                have d11 := (blk_cell HX4.out 11).trans (show _ = some (.string key) from rfl)
                have d12 := (blk_cell HX4.out 12).trans (show _ = some (.string tt) from rfl)
                have d13 := (blk_cell HX4.out 13).trans (show _ = some (.int .i64 lim) from rfl)
                have d14 := (blk_cell HX4.out 14).trans (show _ = some (.int .u8 parts) from rfl)
                have d15 := (blk_cell HX4.out 15).trans (show _ = some (.slice A1 ws.length c1) from rfl)
                have d16 := (blk_cell HX4.out 16).trans (show _ = some (.slice A2 sk.length c2) from rfl)
                go_wp2_with fail
                refine (HAS.out hrr w4 g _ HI4z HI4.out HB4.out).mono ?_
                rintro e w5 ⟨rfl, hI, hB, hK⟩
                have HI5 := Lib.hid hI
                have HB5 := Lib.hid hB
                clear hI hB hK
                go_wp2_with fail
                refine (wbytes w _ g _ HI5.out HB5.out).mono ?_
                rintro e w6 ⟨rfl, hI, hB, hK⟩
                have HB6 := Lib.hid hB
                clear hI hB hK
                go_wp2_with fail
                go_ret2
                exact ⟨by rw [HR.out]; simp [encL, acc, ByteArray.append_assoc], HB6.out⟩
end Go.Proofs.Ytjfokbkfniilhaa

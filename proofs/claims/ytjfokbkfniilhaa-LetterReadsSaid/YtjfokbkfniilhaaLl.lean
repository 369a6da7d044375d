/- When two requests, and two letters, are the same. Conditions: those that each theorem names. -/
import Derived.Test.YtjfokbkfniilhaaLj
set_option linter.unusedVariables false
set_option linter.unusedSimpArgs false
namespace Go.Proofs.Ytjfokbkfniilhaa
open Go.RowKit Go.Proofs.YtjfokbkfniilhaaW.PrintWords Go.Proofs.Ytjfokbkfniilhaa.PLa Go.Proofs.Ytjfokbkfniilhaa.PRd
attribute [local go_sem high] eqA24 eqA66 eqA68
def sQ (a b : Rq) : Bool := decide (a.k = b.k) && (decide (a.bc = b.bc) && decide (a.bn = b.bn)) && (decide (a.sp = b.sp) && decide (a.sl = b.sl)) && (decide (a.ap = b.ap) && decide (a.al = b.al)) && decide (a.key.toList = b.key.toList) && decide (a.tt.toList = b.tt.toList) && decide (a.lim = b.lim) && (a.parts == b.parts)
theorem eqD_iff {α : Type} (x y : α) : eqD x y = true ↔ x = y := by unfold eqD; simp
theorem sQ_eq (a b : Rq) (h1 : a.ws = b.ws) (h2 : a.sk = b.sk) : sQ a b = eqD a b := by
  have h : ∀ x y : Bool, (x = true ↔ y = true) → x = y := by decide
  apply h
  rw [eqD_iff]
  obtain ⟨k, bc, bn, sp, sl, ap, al, key, tt, lim, parts, ws, sk⟩ := a
  obtain ⟨k', bc', bn', sp', sl', ap', al', key', tt', lim', parts', ws', sk'⟩ := b
  dsimp only at h1 h2
  subst h1 h2
  simp only [sQ, Bool.and_eq_true, decide_eq_true_eq, beq_iff_eq, tl_inj, Rq.mk.injEq]
  constructor
  · rintro ⟨⟨⟨⟨⟨⟨⟨h1, h2, h3⟩, h4, h5⟩, h6, h7⟩, h8⟩, h9⟩, h10⟩, h11⟩
    exact ⟨h1, h2, h3, h4, h5, h6, h7, h8, h9, h10, h11, by trivial, by trivial⟩
  · rintro ⟨h1, h2, h3, h4, h5, h6, h7, h8, h9, h10, h11, _, _⟩
    exact ⟨⟨⟨⟨⟨⟨⟨h1, h2, h3⟩, h4, h5⟩, h6, h7⟩, h8⟩, h9⟩, h10⟩, h11⟩
set_option maxRecDepth 100000 in
set_option maxHeartbeats 16000000 in
theorem asks_calls (a b : Rq) (A1 A2 B1 B2 : Option Addr) (c1 c2 d1 d2 : Nat) (w : World) (hz1 : a.ws.length ≤ 9223372036854775807) (hz2 : a.sk.length ≤ 9223372036854775807) (hz3 : b.ws.length ≤ 9223372036854775807) (hz4 : b.sk.length ≤ 9223372036854775807)
    (h1 : Kd.C k66 w A1 a.ws.length a.ws) (h2 : Kd.C k24 w A2 a.sk.length a.sk) (h3 : Kd.C k66 w B1 b.ws.length b.ws) (h4 : Kd.C k24 w B2 b.sk.length b.sk) :
    Calls Try.prog 34 #[.agg #[.int .i64 a.k, .int .u32 a.bc, .int .u32 a.bn, .int .u64 a.sp, .int .u32 a.sl, .int .u64 a.ap, .int .u32 a.al, .string a.key, .string a.tt, .int .i64 a.lim, .int .u8 a.parts, .slice A1 a.ws.length c1, .slice A2 a.sk.length c2], .agg #[.int .i64 b.k, .int .u32 b.bc, .int .u32 b.bn, .int .u64 b.sp, .int .u32 b.sl, .int .u64 b.ap, .int .u32 b.al, .string b.key, .string b.tt, .int .i64 b.lim, .int .u8 b.parts, .slice B1 b.ws.length d1, .slice B2 b.sk.length d2]] w fun e w' => e = .returned (.bool (eqD a b)) ∧ Below w.heap.size w w' := by
  have HC1 := Lib.hid h1
  have HC2 := Lib.hid h2
  have HC3 := Lib.hid h3
  have HC4 := Lib.hid h4
  have HS := Lib.hid (sQ_eq a b)
  have HNW := Lib.hid (fun (h : a.ws ≠ b.ws) => eqD_ne (fun e : a = b => h (by rw [e])))
  have HNS := Lib.hid (fun (h : a.sk ≠ b.sk) => eqD_ne (fun e : a = b => h (by rw [e])))
  clear h1 h2 h3 h4
  obtain ⟨k, bc, bn, sp, sl, ap, al, key, tt, lim, parts, ws, sk⟩ := a
  obtain ⟨k', bc', bn', sp', sl', ap', al', key', tt', lim', parts', ws', sk'⟩ := b
  dsimp only at *
  generalize hR : eqD (Rq.mk k bc bn sp sl ap al key tt lim parts ws sk) (Rq.mk k' bc' bn' sp' sl' ap' al' key' tt' lim' parts' ws' sk') = R at *
  clear hR
  have HB0 := Lib.hid (below_alloc' (below_alloc' (Below.refl _ w) (.cells #[.int .i64 k, .int .u32 bc, .int .u32 bn, .int .u64 sp, .int .u32 sl, .int .u64 ap, .int .u32 al, .string key, .string tt, .int .i64 lim, .int .u8 parts, .slice A1 ws.length c1, .slice A2 sk.length c2] 31)) (.cells #[.int .i64 k', .int .u32 bc', .int .u32 bn', .int .u64 sp', .int .u32 sl', .int .u64 ap', .int .u32 al', .string key', .string tt', .int .i64 lim', .int .u8 parts', .slice B1 ws'.length d1, .slice B2 sk'.length d2] 31))
  have HX0 := Lib.hid (((below_alloc (Below.refl _ _) (.cells #[.int .i64 k', .int .u32 bc', .int .u32 bn', .int .u64 sp', .int .u32 sl', .int .u64 ap', .int .u32 al', .string key', .string tt', .int .i64 lim', .int .u8 parts', .slice B1 ws'.length d1, .slice B2 sk'.length d2] 31)).block _ (lt_at (heap_alloc_new w (.cells #[.int .i64 k, .int .u32 bc, .int .u32 bn, .int .u64 sp, .int .u32 sl, .int .u64 ap, .int .u32 al, .string key, .string tt, .int .i64 lim, .int .u8 parts, .slice A1 ws.length c1, .slice A2 sk.length c2] 31)))).trans (heap_alloc_new w (.cells #[.int .i64 k, .int .u32 bc, .int .u32 bn, .int .u64 sp, .int .u32 sl, .int .u64 ap, .int .u32 al, .string key, .string tt, .int .i64 lim, .int .u8 parts, .slice A1 ws.length c1, .slice A2 sk.length c2] 31)))
  have HY0 := Lib.hid (heap_alloc2_new w (.cells #[.int .i64 k, .int .u32 bc, .int .u32 bn, .int .u64 sp, .int .u32 sl, .int .u64 ap, .int .u32 al, .string key, .string tt, .int .i64 lim, .int .u8 parts, .slice A1 ws.length c1, .slice A2 sk.length c2] 31) (.cells #[.int .i64 k', .int .u32 bc', .int .u32 bn', .int .u64 sp', .int .u32 sl', .int .u64 ap', .int .u32 al', .string key', .string tt', .int .i64 lim', .int .u8 parts', .slice B1 ws'.length d1, .slice B2 sk'.length d2] 31))
  by_cases hl : ws.length = ws'.length ∧ sk.length = sk'.length
  case neg =>
    clear HX0 HY0 HS
    have hr : R = false := by
      by_cases hw : ws = ws'
      · exact HNS.out (fun h => hl ⟨by rw [hw], by rw [h]⟩)
      · exact HNW.out hw
    have HR := Lib.hid hr
    have HLN := Lib.hid hl
    clear hl hr
    by_cases hw : ws.length = ws'.length
    · have hs1 : ¬ sk.length = sk'.length := fun h => HLN.out ⟨hw, h⟩
      have hs2 : ((sk.length : Int) == (sk'.length : Int)) = false := by simpa using (by omega : ¬ (sk.length : Int) = (sk'.length : Int))
      have hs3 : ¬ (sk.length : Int) = (sk'.length : Int) := by omega
      have hw2 : (ws.length : Int) = (ws'.length : Int) := by omega
      go_enter Try.func34, Try.ntmps34
      go_wp2_with fail
      all_goals go_ret
      all_goals exact ⟨by rw [HR.out]; rfl, below_alloc' (below_alloc' (Below.refl _ w) _) _⟩
    · have hs2 : ((ws.length : Int) == (ws'.length : Int)) = false := by simpa using (by omega : ¬ (ws.length : Int) = (ws'.length : Int))
      have hs3 : ¬ (ws.length : Int) = (ws'.length : Int) := by omega
      go_enter Try.func34, Try.ntmps34
      go_wp2_with fail
      all_goals go_ret
      all_goals exact ⟨by rw [HR.out]; rfl, below_alloc' (below_alloc' (Below.refl _ w) _) _⟩
  have HLW := Lib.hid hl.1
  have HLS := Lib.hid hl.2
  obtain ⟨hlw, hls⟩ := hl
  rw [← hlw, ← hls] at HB0 HX0 HY0 ⊢
  clear hlw hls
  go_enter Try.func34, Try.ntmps34
  go_wp2_with fail
  go_loopg [5] (ws.length + 1) (fun gk v5 wr => ∃ i : Nat, i ≤ ws.length ∧ v5 = .int .i64 (i : Int) ∧ Aside0 (i + gk = ws.length + 1) ∧ Aside0 (ws.take i = ws'.take i ∧ Below w.heap.size w wr ∧ wr.heap[w.heap.size]? = some (.cells #[.int .i64 k, .int .u32 bc, .int .u32 bn, .int .u64 sp, .int .u32 sl, .int .u64 ap, .int .u32 al, .string key, .string tt, .int .i64 lim, .int .u8 parts, .slice A1 ws.length c1, .slice A2 sk.length c2] 31 (0, 0)) ∧ wr.heap[w.heap.size + 1]? = some (.cells #[.int .i64 k', .int .u32 bc', .int .u32 bn', .int .u64 sp', .int .u32 sl', .int .u64 ap', .int .u32 al', .string key', .string tt', .int .i64 lim', .int .u8 parts', .slice B1 ws.length d1, .slice B2 sk.length d2] 31 (0, 0))))
  case atStart => exact ⟨0, Nat.zero_le _, rfl, ⟨by omega⟩, ⟨by rw [List.take_zero, List.take_zero], HB0.out, HX0.out, HY0.out⟩⟩
  case round =>
  obtain ⟨i, hi, rfl, ⟨hg⟩, ⟨hT, hB, hX, hY⟩⟩ := hrel
  have HG := Lib.hid hg
  have HT := Lib.hid hT
  have HB := Lib.hid hB
  have HX := Lib.hid hX
  have HY := Lib.hid hY
  clear hg hT hB hX hY HB0 HX0 HY0
  have hxl := lt_at HX.out
  have hyl := lt_at HY.out
  rcases (show i < ws.length ∨ i = ws.length by omega) with hlt | rfl
  · have hlt2 : i < ws'.length := by have := HLW.out; omega
    have bx := (blk_cell HX.out 11).trans (show _ = some (.slice A1 ws.length c1) from rfl)
    have by_ := (blk_cell HY.out 11).trans (show _ = some (.slice B1 ws.length d1) from rfl)
    obtain ⟨ad1, e1, k0_, k1_, k2_⟩ := at_T66 (Kd.C_below HC1.out HB.out) (i : Int) (by omega) (by omega)
    obtain ⟨ad2, e2, l0_, l1_, l2_⟩ := at_T66 (Kd.C_below HC3.out HB.out) (i : Int) (by omega) (by omega)
    subst e1 e2
    rw [Int.toNat_natCast] at k0_ k1_ k2_ l0_ l1_ l2_
    have HE1 : Hid (rd_T66 ws (i : Int) = ws[i]) := Lib.hid (by
      unfold rd_T66
      rw [List.getD_eq_getElem?_getD, Int.toNat_natCast, List.getElem?_eq_getElem hlt]
      rfl)
    have HE2 : Hid (rd_T66 ws' (i : Int) = ws'[i]) := Lib.hid (by
      unfold rd_T66
      rw [List.getD_eq_getElem?_getD, Int.toNat_natCast, List.getElem?_eq_getElem hlt2]
      rfl)
    generalize rd_T66 ws (i : Int) = x at *
    generalize rd_T66 ws' (i : Int) = y at *
    by_cases hxy : x = y
    · subst hxy
      have HT2 := Lib.hid (take_eq i hlt hlt2 HT.out (HE1.out.symm.trans HE2.out))
      obtain ⟨x0, x1, x2⟩ := x
      dsimp only at *
      skip
      go_wp2_with fail
      go_region
      go_wp2_with fail
      go_roundg (gk - 1)
      case measure => have := HG.out; omega
      case rel => exact ⟨i + 1, by omega, by go_num, ⟨by have := HG.out; omega⟩, ⟨HT2.out, below_drew1 HB.out, HX.out, HY.out⟩⟩
    · have HNE := Lib.hid (ne_at i hlt hlt2 (by rw [← HE1.out, ← HE2.out]; exact hxy))
      obtain ⟨x0, x1, x2⟩ := x
      obtain ⟨y0, y1, y2⟩ := y
      dsimp only at *
      have hbf : ((x0.toList == y0.toList) && ((x1.toList == y1.toList) && (x2 == y2))) = false := by
        cases hq : ((x0.toList == y0.toList) && ((x1.toList == y1.toList) && (x2 == y2))) with
        | false => rfl
        | true =>
          exfalso
          apply hxy
          simp only [Bool.and_eq_true, beq_iff_eq, tl_inj] at hq
          simp [hq]
      clear hxy
      generalize hbe : ((x0.toList == y0.toList) && ((x1.toList == y1.toList) && (x2 == y2))) = be at *
      subst hbf
      go_wp2_with fail
      go_region
      try rw [hbe]
      clear hbe
      go_wp2_with fail
      go_ret
      exact ⟨by rw [HNW.out HNE.out]; rfl, pw_below_drewN HB.out 1⟩
  have HEQws : Hid (ws = ws') := Lib.hid (by
    have h := HT.out
    rw [List.take_length] at h
    rw [h, HLW.out, List.take_length])
  have HB0 := HB
  have HX0 := HX
  have HY0 := HY
  have bx := (blk_cell HX.out 11).trans (show _ = some (.slice A1 ws.length c1) from rfl)
  clear HB HX HY HG HT
  have cx := (blk_cell HX0.out 12).trans (show _ = some (.slice A2 sk.length c2) from rfl)
  go_wp2_with fail
  go_loopg [6] (sk.length + 1) (fun gk v6 wr => ∃ i : Nat, i ≤ sk.length ∧ v6 = .int .i64 (i : Int) ∧ Aside0 (i + gk = sk.length + 1) ∧ Aside0 (sk.take i = sk'.take i ∧ Below w.heap.size w wr ∧ wr.heap[w.heap.size]? = some (.cells #[.int .i64 k, .int .u32 bc, .int .u32 bn, .int .u64 sp, .int .u32 sl, .int .u64 ap, .int .u32 al, .string key, .string tt, .int .i64 lim, .int .u8 parts, .slice A1 ws.length c1, .slice A2 sk.length c2] 31 (0, 0)) ∧ wr.heap[w.heap.size + 1]? = some (.cells #[.int .i64 k', .int .u32 bc', .int .u32 bn', .int .u64 sp', .int .u32 sl', .int .u64 ap', .int .u32 al', .string key', .string tt', .int .i64 lim', .int .u8 parts', .slice B1 ws.length d1, .slice B2 sk.length d2] 31 (0, 0))))
  case atStart => exact ⟨0, Nat.zero_le _, rfl, ⟨by omega⟩, ⟨by rw [List.take_zero, List.take_zero], HB0.out, HX0.out, HY0.out⟩⟩
  case round =>
  obtain ⟨i, hi, rfl, ⟨hg⟩, ⟨hT, hB, hX, hY⟩⟩ := hrel
  have HG := Lib.hid hg
  have HT := Lib.hid hT
  have HB := Lib.hid hB
  have HX := Lib.hid hX
  have HY := Lib.hid hY
  clear hg hT hB hX hY HB0 HX0 HY0
  have hxl := lt_at HX.out
  have hyl := lt_at HY.out
  rcases (show i < sk.length ∨ i = sk.length by omega) with hlt | rfl
  · have hlt2 : i < sk'.length := by have := HLS.out; omega
    have bx := (blk_cell HX.out 12).trans (show _ = some (.slice A2 sk.length c2) from rfl)
    have by_ := (blk_cell HY.out 12).trans (show _ = some (.slice B2 sk.length d2) from rfl)
    obtain ⟨ad1, e1, k0_, k1_⟩ := at_T24 (Kd.C_below HC2.out HB.out) (i : Int) (by omega) (by omega)
    obtain ⟨ad2, e2, l0_, l1_⟩ := at_T24 (Kd.C_below HC4.out HB.out) (i : Int) (by omega) (by omega)
    subst e1 e2
    rw [Int.toNat_natCast] at k0_ k1_ l0_ l1_
    have HE1 : Hid (rd_T24 sk (i : Int) = sk[i]) := Lib.hid (by
      unfold rd_T24
      rw [List.getD_eq_getElem?_getD, Int.toNat_natCast, List.getElem?_eq_getElem hlt]
      rfl)
    have HE2 : Hid (rd_T24 sk' (i : Int) = sk'[i]) := Lib.hid (by
      unfold rd_T24
      rw [List.getD_eq_getElem?_getD, Int.toNat_natCast, List.getElem?_eq_getElem hlt2]
      rfl)
    generalize rd_T24 sk (i : Int) = x at *
    generalize rd_T24 sk' (i : Int) = y at *
    by_cases hxy : x = y
    · subst hxy
      have HT2 := Lib.hid (take_eq i hlt hlt2 HT.out (HE1.out.symm.trans HE2.out))
      obtain ⟨x0, x1⟩ := x
      dsimp only at *
      skip
      go_wp2_with fail
      go_region
      go_wp2_with fail
      go_roundg (gk - 1)
      case measure => have := HG.out; omega
      case rel => exact ⟨i + 1, by omega, by go_num, ⟨by have := HG.out; omega⟩, ⟨HT2.out, below_drew1 HB.out, HX.out, HY.out⟩⟩
    · have HNE := Lib.hid (ne_at i hlt hlt2 (by rw [← HE1.out, ← HE2.out]; exact hxy))
      obtain ⟨x0, x1⟩ := x
      obtain ⟨y0, y1⟩ := y
      dsimp only at *
      have hbf : ((x0 == y0) && (x1 == y1)) = false := by
        cases hq : ((x0 == y0) && (x1 == y1)) with
        | false => rfl
        | true =>
          exfalso
          apply hxy
          simp only [Bool.and_eq_true, beq_iff_eq, tl_inj] at hq
          simp [hq]
      clear hxy
      generalize hbe : ((x0 == y0) && (x1 == y1)) = be at *
      subst hbf
      go_wp2_with fail
      go_region
      try rw [hbe]
      clear hbe
      go_wp2_with fail
      go_ret
      exact ⟨by rw [HNS.out HNE.out]; rfl, pw_below_drewN HB.out 1⟩
  have HEQsk : Hid (sk = sk') := Lib.hid (by
    have h := HT.out
    rw [List.take_length] at h
    rw [h, HLS.out, List.take_length])
  have HB0 := HB
  have HX0 := HX
  have HY0 := HY
  have bx := (blk_cell HX.out 12).trans (show _ = some (.slice A2 sk.length c2) from rfl)
  clear HB HX HY HG HT
  have HSQ := Lib.hid (HS.out HEQws.out HEQsk.out)
  have p0 := (blk_cell HX0.out 0).trans (show _ = some (.int .i64 k) from rfl)
  have r0 := (blk_cell HY0.out 0).trans (show _ = some (.int .i64 k') from rfl)
  have p1 := (blk_cell HX0.out 1).trans (show _ = some (.int .u32 bc) from rfl)
  have r1 := (blk_cell HY0.out 1).trans (show _ = some (.int .u32 bc') from rfl)
  have p2 := (blk_cell HX0.out 2).trans (show _ = some (.int .u32 bn) from rfl)
  have r2 := (blk_cell HY0.out 2).trans (show _ = some (.int .u32 bn') from rfl)
  have p3 := (blk_cell HX0.out 3).trans (show _ = some (.int .u64 sp) from rfl)
  have r3 := (blk_cell HY0.out 3).trans (show _ = some (.int .u64 sp') from rfl)
  have p4 := (blk_cell HX0.out 4).trans (show _ = some (.int .u32 sl) from rfl)
  have r4 := (blk_cell HY0.out 4).trans (show _ = some (.int .u32 sl') from rfl)
  have p5 := (blk_cell HX0.out 5).trans (show _ = some (.int .u64 ap) from rfl)
  have r5 := (blk_cell HY0.out 5).trans (show _ = some (.int .u64 ap') from rfl)
  have p6 := (blk_cell HX0.out 6).trans (show _ = some (.int .u32 al) from rfl)
  have r6 := (blk_cell HY0.out 6).trans (show _ = some (.int .u32 al') from rfl)
  have p7 := (blk_cell HX0.out 7).trans (show _ = some (.string key) from rfl)
  have r7 := (blk_cell HY0.out 7).trans (show _ = some (.string key') from rfl)
  have p8 := (blk_cell HX0.out 8).trans (show _ = some (.string tt) from rfl)
  have r8 := (blk_cell HY0.out 8).trans (show _ = some (.string tt') from rfl)
  have p9 := (blk_cell HX0.out 9).trans (show _ = some (.int .i64 lim) from rfl)
  have r9 := (blk_cell HY0.out 9).trans (show _ = some (.int .i64 lim') from rfl)
  have p10 := (blk_cell HX0.out 10).trans (show _ = some (.int .u8 parts) from rfl)
  have r10 := (blk_cell HY0.out 10).trans (show _ = some (.int .u8 parts') from rfl)
  go_wp2_with fail
  all_goals go_ret
  all_goals refine ⟨?_, HB0.out⟩
  all_goals rw [← HSQ.out]
  all_goals simp [sQ, *]
end Go.Proofs.Ytjfokbkfniilhaa

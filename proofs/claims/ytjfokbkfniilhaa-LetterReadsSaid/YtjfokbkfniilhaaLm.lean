/- When two letters are the same. Conditions: those that each theorem names. -/
import Derived.Test.YtjfokbkfniilhaaLl
set_option linter.unusedVariables false
set_option linter.unusedSimpArgs false
namespace Go.Proofs.Ytjfokbkfniilhaa
open Go.RowKit Go.Proofs.YtjfokbkfniilhaaW.PrintWords Go.Proofs.Ytjfokbkfniilhaa.PLa Go.Proofs.Ytjfokbkfniilhaa.PRd
theorem lt_of_parts (a b : Lt) (h1 : a.cl = b.cl) (h2 : a.sh = b.sh) (h3 : a.sq = b.sq) (h4 : a.an = b.an) (h5 : a.q = b.q) (h6 : a.r = b.r) : a = b := by
  cases a; cases b; simp only at h1 h2 h3 h4 h5 h6; subst h1 h2 h3 h4 h5 h6; rfl
set_option maxRecDepth 100000 in
set_option maxHeartbeats 16000000 in
theorem same_calls (a b : Lt) (A1 A2 A3 B1 B2 B3 : Option Addr) (c1 c2 c3 d1 d2 d3 : Nat) (w : World) (ha : LOk a) (hb : LOk b) (h1 : LtIn w a A1 c1 A2 c2 A3 c3) (h2 : LtIn w b B1 d1 B2 d2 B3 d3) :
    Calls Try.prog 11 #[LtV a A1 c1 A2 c2 A3 c3, LtV b B1 d1 B2 d2 B3 d3] w fun e w' => e = .returned (.bool (eqD a b)) ∧ Below w.heap.size w w' := by
  have HAS := Lib.hid (fun W (hB : Below w.heap.size w W) => asks_calls a.q b.q A1 A2 B1 B2 c1 c2 d1 d2 W ha.q.ws ha.q.sk hb.q.ws hb.q.sk (Kd.C_below h1.h1 hB) (Kd.C_below h1.h2 hB) (Kd.C_below h2.h1 hB) (Kd.C_below h2.h2 hB))
  have HSM := Lib.hid (fun W (hB : Below w.heap.size w W) => same14_calls a.r b.r A3 B3 c3 d3 W ha.r.ps hb.r.ps (Kd.C_below h1.h3 hB) (Kd.C_below h2.h3 hB))
  clear h1 h2 ha hb
  have HB0 := Lib.hid (below_alloc' (below_alloc' (Below.refl _ w) (.cells #[.int .u32 a.cl, .int .u32 a.sh, .int .u32 a.sq, .bool a.an, .int .i64 a.q.k, .int .u32 a.q.bc, .int .u32 a.q.bn, .int .u64 a.q.sp, .int .u32 a.q.sl, .int .u64 a.q.ap, .int .u32 a.q.al, .string a.q.key, .string a.q.tt, .int .i64 a.q.lim, .int .u8 a.q.parts, .slice A1 a.q.ws.length c1, .slice A2 a.q.sk.length c2, .int .i64 a.r.k, .int .i64 a.r.er, .bool a.r.fd, .string a.r.val, .slice A3 a.r.ps.length c3, .int .u32 a.r.wc, .int .u32 a.r.wn, .int .u64 a.r.sp, .int .u32 a.r.sl, .int .u64 a.r.ap, .int .u32 a.r.al, .string a.r.pr, .int .u64 a.r.np, .int .u32 a.r.nl] 37)) (.cells #[.int .u32 b.cl, .int .u32 b.sh, .int .u32 b.sq, .bool b.an, .int .i64 b.q.k, .int .u32 b.q.bc, .int .u32 b.q.bn, .int .u64 b.q.sp, .int .u32 b.q.sl, .int .u64 b.q.ap, .int .u32 b.q.al, .string b.q.key, .string b.q.tt, .int .i64 b.q.lim, .int .u8 b.q.parts, .slice B1 b.q.ws.length d1, .slice B2 b.q.sk.length d2, .int .i64 b.r.k, .int .i64 b.r.er, .bool b.r.fd, .string b.r.val, .slice B3 b.r.ps.length d3, .int .u32 b.r.wc, .int .u32 b.r.wn, .int .u64 b.r.sp, .int .u32 b.r.sl, .int .u64 b.r.ap, .int .u32 b.r.al, .string b.r.pr, .int .u64 b.r.np, .int .u32 b.r.nl] 37))
  have HX0 := Lib.hid (((below_alloc (Below.refl _ _) (.cells #[.int .u32 b.cl, .int .u32 b.sh, .int .u32 b.sq, .bool b.an, .int .i64 b.q.k, .int .u32 b.q.bc, .int .u32 b.q.bn, .int .u64 b.q.sp, .int .u32 b.q.sl, .int .u64 b.q.ap, .int .u32 b.q.al, .string b.q.key, .string b.q.tt, .int .i64 b.q.lim, .int .u8 b.q.parts, .slice B1 b.q.ws.length d1, .slice B2 b.q.sk.length d2, .int .i64 b.r.k, .int .i64 b.r.er, .bool b.r.fd, .string b.r.val, .slice B3 b.r.ps.length d3, .int .u32 b.r.wc, .int .u32 b.r.wn, .int .u64 b.r.sp, .int .u32 b.r.sl, .int .u64 b.r.ap, .int .u32 b.r.al, .string b.r.pr, .int .u64 b.r.np, .int .u32 b.r.nl] 37)).block _ (lt_at (heap_alloc_new w (.cells #[.int .u32 a.cl, .int .u32 a.sh, .int .u32 a.sq, .bool a.an, .int .i64 a.q.k, .int .u32 a.q.bc, .int .u32 a.q.bn, .int .u64 a.q.sp, .int .u32 a.q.sl, .int .u64 a.q.ap, .int .u32 a.q.al, .string a.q.key, .string a.q.tt, .int .i64 a.q.lim, .int .u8 a.q.parts, .slice A1 a.q.ws.length c1, .slice A2 a.q.sk.length c2, .int .i64 a.r.k, .int .i64 a.r.er, .bool a.r.fd, .string a.r.val, .slice A3 a.r.ps.length c3, .int .u32 a.r.wc, .int .u32 a.r.wn, .int .u64 a.r.sp, .int .u32 a.r.sl, .int .u64 a.r.ap, .int .u32 a.r.al, .string a.r.pr, .int .u64 a.r.np, .int .u32 a.r.nl] 37)))).trans (heap_alloc_new w (.cells #[.int .u32 a.cl, .int .u32 a.sh, .int .u32 a.sq, .bool a.an, .int .i64 a.q.k, .int .u32 a.q.bc, .int .u32 a.q.bn, .int .u64 a.q.sp, .int .u32 a.q.sl, .int .u64 a.q.ap, .int .u32 a.q.al, .string a.q.key, .string a.q.tt, .int .i64 a.q.lim, .int .u8 a.q.parts, .slice A1 a.q.ws.length c1, .slice A2 a.q.sk.length c2, .int .i64 a.r.k, .int .i64 a.r.er, .bool a.r.fd, .string a.r.val, .slice A3 a.r.ps.length c3, .int .u32 a.r.wc, .int .u32 a.r.wn, .int .u64 a.r.sp, .int .u32 a.r.sl, .int .u64 a.r.ap, .int .u32 a.r.al, .string a.r.pr, .int .u64 a.r.np, .int .u32 a.r.nl] 37)))
  have HY0 := Lib.hid (heap_alloc2_new w (.cells #[.int .u32 a.cl, .int .u32 a.sh, .int .u32 a.sq, .bool a.an, .int .i64 a.q.k, .int .u32 a.q.bc, .int .u32 a.q.bn, .int .u64 a.q.sp, .int .u32 a.q.sl, .int .u64 a.q.ap, .int .u32 a.q.al, .string a.q.key, .string a.q.tt, .int .i64 a.q.lim, .int .u8 a.q.parts, .slice A1 a.q.ws.length c1, .slice A2 a.q.sk.length c2, .int .i64 a.r.k, .int .i64 a.r.er, .bool a.r.fd, .string a.r.val, .slice A3 a.r.ps.length c3, .int .u32 a.r.wc, .int .u32 a.r.wn, .int .u64 a.r.sp, .int .u32 a.r.sl, .int .u64 a.r.ap, .int .u32 a.r.al, .string a.r.pr, .int .u64 a.r.np, .int .u32 a.r.nl] 37) (.cells #[.int .u32 b.cl, .int .u32 b.sh, .int .u32 b.sq, .bool b.an, .int .i64 b.q.k, .int .u32 b.q.bc, .int .u32 b.q.bn, .int .u64 b.q.sp, .int .u32 b.q.sl, .int .u64 b.q.ap, .int .u32 b.q.al, .string b.q.key, .string b.q.tt, .int .i64 b.q.lim, .int .u8 b.q.parts, .slice B1 b.q.ws.length d1, .slice B2 b.q.sk.length d2, .int .i64 b.r.k, .int .i64 b.r.er, .bool b.r.fd, .string b.r.val, .slice B3 b.r.ps.length d3, .int .u32 b.r.wc, .int .u32 b.r.wn, .int .u64 b.r.sp, .int .u32 b.r.sl, .int .u64 b.r.ap, .int .u32 b.r.al, .string b.r.pr, .int .u64 b.r.np, .int .u32 b.r.nl] 37))
  have HNE := Lib.hid (fun (h : a ≠ b) => eqD_ne h)
  have HEQ := Lib.hid (fun (h : a = b) => eqD_of h)
  show Calls Try.prog 11 #[.agg #[.int .u32 a.cl, .int .u32 a.sh, .int .u32 a.sq, .bool a.an, .int .i64 a.q.k, .int .u32 a.q.bc, .int .u32 a.q.bn, .int .u64 a.q.sp, .int .u32 a.q.sl, .int .u64 a.q.ap, .int .u32 a.q.al, .string a.q.key, .string a.q.tt, .int .i64 a.q.lim, .int .u8 a.q.parts, .slice A1 a.q.ws.length c1, .slice A2 a.q.sk.length c2, .int .i64 a.r.k, .int .i64 a.r.er, .bool a.r.fd, .string a.r.val, .slice A3 a.r.ps.length c3, .int .u32 a.r.wc, .int .u32 a.r.wn, .int .u64 a.r.sp, .int .u32 a.r.sl, .int .u64 a.r.ap, .int .u32 a.r.al, .string a.r.pr, .int .u64 a.r.np, .int .u32 a.r.nl], .agg #[.int .u32 b.cl, .int .u32 b.sh, .int .u32 b.sq, .bool b.an, .int .i64 b.q.k, .int .u32 b.q.bc, .int .u32 b.q.bn, .int .u64 b.q.sp, .int .u32 b.q.sl, .int .u64 b.q.ap, .int .u32 b.q.al, .string b.q.key, .string b.q.tt, .int .i64 b.q.lim, .int .u8 b.q.parts, .slice B1 b.q.ws.length d1, .slice B2 b.q.sk.length d2, .int .i64 b.r.k, .int .i64 b.r.er, .bool b.r.fd, .string b.r.val, .slice B3 b.r.ps.length d3, .int .u32 b.r.wc, .int .u32 b.r.wn, .int .u64 b.r.sp, .int .u32 b.r.sl, .int .u64 b.r.ap, .int .u32 b.r.al, .string b.r.pr, .int .u64 b.r.np, .int .u32 b.r.nl]] w _
  by_cases hc : a.cl = b.cl ∧ a.sh = b.sh ∧ a.sq = b.sq ∧ a.an = b.an
  case neg =>
    have hr := HNE.out (fun h => hc ⟨by rw [h], by rw [h], by rw [h], by rw [h]⟩)
    have HR := Lib.hid hr
    have HCN := Lib.hid hc
    clear hr hc HAS HSM HX0 HY0 HNE HEQ HB0
    go_enter Try.func11, Try.ntmps11
    go_wp2_with fail
    all_goals first | (exfalso; exact HCN.out ⟨by assumption, by assumption, by assumption, by assumption⟩) | skip
    all_goals go_ret
    all_goals exact ⟨by rw [HR.out]; rfl, below_alloc' (below_alloc' (Below.refl _ w) _) _⟩
  obtain ⟨e1, e2, e3, e4⟩ := hc
  have HP := Lib.hid (lt_of_parts a b e1 e2 e3 e4)
  obtain ⟨cl, sh, sq, an, q, r⟩ := a
  obtain ⟨cl', sh', sq', an', q', r'⟩ := b
  dsimp only at *
  subst e1 e2 e3 e4
  generalize hR : eqD (Lt.mk cl sh sq an q r) (Lt.mk cl sh sq an q' r') = R at *
  clear hR
  by_cases hq : q = q'
  · by_cases hr : r = r'
    · have HR := Lib.hid (HEQ.out (HP.out hq hr))
      have E1 := Lib.hid (eqD_of hq)
      have E2 := Lib.hid (eqD_of hr)
      rw [E1.out] at HAS
      rw [E2.out] at HSM
      clear hq hr HP HNE HEQ
      go_enter Try.func11, Try.ntmps11
      go_wp2_with fail
      refine (HAS.out _ HB0.out).mono ?_
      rintro e w1 ⟨rfl, hB1⟩
      obtain ⟨hc1, hf1⟩ := bcell hB1
      have HB2 := Lib.hid (bel_then HB0.out hB1)
      have hz1 : w.heap.size + 1 < w1.heap.size := by have h1 := hB1.size; simp at h1; omega
      clear hB1
      go_wp2_with fail
      refine (HSM.out _ HB2.out).mono ?_
      rintro e w2 ⟨rfl, hB3⟩
      have HB3 := Lib.hid (bel_then HB2.out hB3)
      clear hB3
      go_wp2_with fail
      go_ret
      exact ⟨by rw [HR.out]; rfl, HB3.out⟩
    · have HR := Lib.hid (HNE.out (fun h => hr (by injection h)))
      have E1 := Lib.hid (eqD_of hq)
      have E2 := Lib.hid (eqD_ne hr)
      rw [E1.out] at HAS
      rw [E2.out] at HSM
      clear hq hr HP HNE HEQ
      go_enter Try.func11, Try.ntmps11
      go_wp2_with fail
      refine (HAS.out _ HB0.out).mono ?_
      rintro e w1 ⟨rfl, hB1⟩
      obtain ⟨hc1, hf1⟩ := bcell hB1
      have HB2 := Lib.hid (bel_then HB0.out hB1)
      have hz1 : w.heap.size + 1 < w1.heap.size := by have h1 := hB1.size; simp at h1; omega
      clear hB1
      go_wp2_with fail
      refine (HSM.out _ HB2.out).mono ?_
      rintro e w2 ⟨rfl, hB3⟩
      have HB3 := Lib.hid (bel_then HB2.out hB3)
      clear hB3
      go_wp2_with fail
      go_ret
      exact ⟨by rw [HR.out]; rfl, HB3.out⟩
  · have HR := Lib.hid (HNE.out (fun h => hq (by injection h)))
    have E1 := Lib.hid (eqD_ne hq)
    rw [E1.out] at HAS
    clear hq HP HNE HEQ HSM
    go_enter Try.func11, Try.ntmps11
    go_wp2_with fail
    refine (HAS.out _ HB0.out).mono ?_
    rintro e w1 ⟨rfl, hB1⟩
    obtain ⟨hc1, hf1⟩ := bcell hB1
    have HB2 := Lib.hid (bel_then HB0.out hB1)
    clear hB1
    go_wp2_with fail
    go_ret
    exact ⟨by rw [HR.out]; rfl, HB2.out⟩
end Go.Proofs.Ytjfokbkfniilhaa

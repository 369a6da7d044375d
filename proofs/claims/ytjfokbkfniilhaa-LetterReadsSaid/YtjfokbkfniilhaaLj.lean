/- When two letters are the same. Conditions: those that each theorem names. -/
import Derived.Test.YtjfokbkfniilhaaLi
import Derived.Test.YtjfokbkfniilhaaWEqStruct
set_option linter.unusedVariables false
set_option linter.unusedSimpArgs false
namespace Go.Proofs.Ytjfokbkfniilhaa
open Go.RowKit Go.Proofs.YtjfokbkfniilhaaW.PrintWords Go.Proofs.Ytjfokbkfniilhaa.PLa Go.Proofs.Ytjfokbkfniilhaa.PRd

theorem eqA24 (d : Nat) (w : World) (x0 y0 : Int) (x1 y1 : Int) :
    (Op.equalIn (d + 2) 24 (.agg #[.int .u32 x0, .int .u32 x1]) (.agg #[.int .u32 y0, .int .u32 y1])).run Try.prog w = .ok (x0 == y0 && (x1 == y1)) w := by
  refine eqA_of Try.underlying24 (by kernel_rfl) ?_
  refine eqf_cons (by rfl) (by go_simp; rfl) (by go_simp; rfl) (by go_simp) ?_
  exact eqf_last (by rfl) (by go_simp; rfl) (by go_simp; rfl) (by go_simp)
theorem eqA66 (d : Nat) (w : World) (x0 y0 : ByteArray) (x1 y1 : ByteArray) (x2 y2 : Bool) :
    (Op.equalIn (d + 2) 66 (.agg #[.string x0, .string x1, .bool x2]) (.agg #[.string y0, .string y1, .bool y2])).run Try.prog w = .ok (x0.toList == y0.toList && (x1.toList == y1.toList && (x2 == y2))) w := by
  refine eqA_of Try.underlying66 (by kernel_rfl) ?_
  refine eqf_cons (by rfl) (by go_simp; rfl) (by go_simp; rfl) (by go_simp) ?_
  refine eqf_cons (by rfl) (by go_simp; rfl) (by go_simp; rfl) (by go_simp) ?_
  exact eqf_last (by rfl) (by go_simp; rfl) (by go_simp; rfl) (by go_simp)
theorem eqA68 (d : Nat) (w : World) (x0 y0 : ByteArray) (x1 y1 : ByteArray) :
    (Op.equalIn (d + 2) 68 (.agg #[.string x0, .string x1]) (.agg #[.string y0, .string y1])).run Try.prog w = .ok (x0.toList == y0.toList && (x1.toList == y1.toList)) w := by
  refine eqA_of Try.underlying68 (by kernel_rfl) ?_
  refine eqf_cons (by rfl) (by go_simp; rfl) (by go_simp; rfl) (by go_simp) ?_
  exact eqf_last (by rfl) (by go_simp; rfl) (by go_simp; rfl) (by go_simp)
attribute [local go_sem high] eqA24 eqA66 eqA68
/-- Are two things the same? -/
noncomputable def eqD {α : Type} (a b : α) : Bool := @decide (a = b) (Classical.propDecidable _)
theorem eqD_self {α : Type} (a : α) : eqD a a = true := by unfold eqD; simp
theorem eqD_of {α : Type} {a b : α} (h : a = b) : eqD a b = true := by subst h; exact eqD_self a
theorem eqD_ne {α : Type} {a b : α} (h : a ≠ b) : eqD a b = false := by unfold eqD; simpa using h
theorem tl_inj {a b : ByteArray} : a.toList = b.toList ↔ a = b := by
  constructor
  · intro h
    rw [ByteArray.toList_eq, ByteArray.toList_eq] at h
    cases a; cases b
    simp at h
    rw [ByteArray.mk.injEq]
    exact h
  · intro h; rw [h]
theorem take_eq {α : Type} {a b : List α} (i : Nat) (h1 : i < a.length) (h2 : i < b.length) (h : a.take i = b.take i) (he : a[i] = b[i]) : a.take (i + 1) = b.take (i + 1) := by
  rw [List.take_succ_eq_append_getElem h1, List.take_succ_eq_append_getElem h2, h, he]
theorem ne_at {α : Type} {a b : List α} (i : Nat) (h1 : i < a.length) (h2 : i < b.length) (he : a[i] ≠ b[i]) : a ≠ b := by
  intro h; subst h; exact he rfl

set_option maxRecDepth 100000 in
set_option maxHeartbeats 8000000 in
theorem pairs_calls (a b : List S68) (A1 A2 : Option Addr) (c1 c2 : Nat) (w : World) (ha : a.length ≤ 9223372036854775807) (hb : b.length ≤ 9223372036854775807) (h1 : Kd.C k68 w A1 a.length a) (h2 : Kd.C k68 w A2 b.length b) :
    Calls Try.prog 56 #[.slice A1 a.length c1, .slice A2 b.length c2] w fun e w' => e = .returned (.bool (eqD a b)) ∧ Below w.heap.size w w' := by
  have HC1 := Lib.hid h1
  have HC2 := Lib.hid h2
  clear h1 h2
  by_cases hl : a.length = b.length
  case neg =>
    have HR := Lib.hid (eqD_ne (fun h : a = b => hl (by rw [h])))
    have hl2 : ((a.length : Int) == (b.length : Int)) = false := by simpa using (by omega : ¬ (a.length : Int) = (b.length : Int))
    have hl3 : ¬ (a.length : Int) = (b.length : Int) := by omega
    go_enter Try.func56, Try.ntmps56
    go_wp2_with fail
    go_ret
    exact ⟨by rw [HR.out]; rfl, Below.refl _ _⟩
  have HL := Lib.hid hl
  go_enter Try.func56, Try.ntmps56
  go_wp2_with fail
  clear hl
  have hl4 : a.length ≤ b.length := Nat.le_of_eq HL.out
  have hl5 : b.length ≤ a.length := Nat.le_of_eq HL.out.symm
  go_loopg [5] (a.length + 1) (fun gk v5 wr => ∃ i : Nat, i ≤ a.length ∧ v5 = .int .i64 (i : Int) ∧ Aside0 (i + gk = a.length + 1) ∧ Aside0 (a.take i = b.take i) ∧ Drawn0 w wr)
  case atStart => exact ⟨0, Nat.zero_le _, rfl, ⟨by omega⟩, ⟨by rw [List.take_zero, List.take_zero]⟩, Drawn0.refl _⟩
  case round =>
  obtain ⟨i, hi, rfl, ⟨hg⟩, ⟨hT⟩, ⟨m, rfl⟩⟩ := hrel
  have HG := Lib.hid hg
  have HT := Lib.hid hT
  clear hg hT
  rcases (show i < a.length ∨ i = a.length by omega) with hlt | rfl
  · obtain ⟨ad1, e1, k0, k1⟩ := at_T68 (HC1.out) (i : Int) (by omega) (by omega)
    obtain ⟨ad2, e2, l0, l1⟩ := at_T68 (HC2.out) (i : Int) (by omega) (by omega)
    subst e1 e2
    rw [Int.toNat_natCast] at k0 k1 l0 l1
    have HE1 : Hid (rd_T68 a (i : Int) = a[i]) := Lib.hid (by
      unfold rd_T68
      rw [List.getD_eq_getElem?_getD, Int.toNat_natCast, List.getElem?_eq_getElem hlt]
      rfl)
    have hlt2 : i < b.length := by omega
    have HE2 : Hid (rd_T68 b (i : Int) = b[i]) := Lib.hid (by
      unfold rd_T68
      rw [List.getD_eq_getElem?_getD, Int.toNat_natCast, List.getElem?_eq_getElem hlt2]
      rfl)
    generalize rd_T68 a (i : Int) = x at *
    generalize rd_T68 b (i : Int) = y at *
    by_cases hxy : x = y
    · subst hxy
      have HT2 := Lib.hid (take_eq i hlt hlt2 HT.out (HE1.out.symm.trans HE2.out))
      obtain ⟨x0, x1⟩ := x
      dsimp only at *
      go_wp2_with fail
      go_region
      go_wp2_with fail
      go_roundg (gk - 1)
      case measure => have := HG.out; omega
      case rel => exact ⟨i + 1, by omega, by go_num, ⟨by have := HG.out; omega⟩, ⟨HT2.out⟩, ⟨m + 1, rfl⟩⟩
    · have HNE := Lib.hid (ne_at i hlt hlt2 (by rw [← HE1.out, ← HE2.out]; exact hxy))
      obtain ⟨x0, x1⟩ := x
      obtain ⟨y0, y1⟩ := y
      dsimp only at *
      have hbf : ((x0.toList == y0.toList) && (x1.toList == y1.toList)) = false := by
        cases hq : ((x0.toList == y0.toList) && (x1.toList == y1.toList)) with
        | false => rfl
        | true =>
          exfalso
          apply hxy
          simp only [Bool.and_eq_true, beq_iff_eq, tl_inj] at hq
          simp [hq]
      have hbf2 : (!((x0.toList == y0.toList) && (x1.toList == y1.toList))) = true := by rw [hbf]; rfl
      clear hxy
      generalize hbe : ((x0.toList == y0.toList) && (x1.toList == y1.toList)) = be at *
      subst hbf
      go_wp2_with fail
      go_region
      try rw [hbe]
      clear hbe
      go_wp2_with fail
      go_ret
      exact ⟨by rw [eqD_ne HNE.out]; rfl, pw_below_drewN (Below.refl _ _) (m + 1)⟩
  · have HEQ : Hid (a = b) := Lib.hid (by
      have h := HT.out
      rw [List.take_length] at h
      rw [h, HL.out, List.take_length])
    go_wp2_with fail
    go_ret
    exact ⟨by rw [eqD_of HEQ.out]; rfl, pw_below_drewN (Below.refl _ _) m⟩
def sP (a b : Rp) (p : Bool) : Bool := decide (a.k = b.k) && decide (a.er = b.er) && (a.fd == b.fd) && decide (a.val.toList = b.val.toList) && p && (decide (a.wc = b.wc) && decide (a.wn = b.wn)) && (decide (a.sp = b.sp) && decide (a.sl = b.sl)) && (decide (a.ap = b.ap) && decide (a.al = b.al)) && decide (a.pr.toList = b.pr.toList) && (decide (a.np = b.np) && decide (a.nl = b.nl))
theorem sP_eq (a b : Rp) : sP a b (eqD a.ps b.ps) = eqD a b := by
  have h : ∀ x y : Bool, (x = true ↔ y = true) → x = y := by decide
  apply h
  have he : ∀ {α : Type} (x y : α), eqD x y = true ↔ x = y := fun x y => by unfold eqD; simp
  rw [he]
  obtain ⟨k, er, fd, val, ps, wc, wn, sp, sl, ap, al, pr, np, nl⟩ := a
  obtain ⟨k', er', fd', val', ps', wc', wn', sp', sl', ap', al', pr', np', nl'⟩ := b
  simp only [sP, Bool.and_eq_true, decide_eq_true_eq, beq_iff_eq, tl_inj, he, Rp.mk.injEq]
  constructor
  · rintro ⟨⟨⟨⟨⟨⟨⟨⟨⟨h1, h2⟩, h3⟩, h4⟩, h5⟩, h6, h7⟩, h8, h9⟩, h10, h11⟩, h12⟩, h13, h14⟩
    exact ⟨h1, h2, h3, h4, h5, h6, h7, h8, h9, h10, h11, h12, h13, h14⟩
  · rintro ⟨h1, h2, h3, h4, h5, h6, h7, h8, h9, h10, h11, h12, h13, h14⟩
    exact ⟨⟨⟨⟨⟨⟨⟨⟨⟨h1, h2⟩, h3⟩, h4⟩, h5⟩, h6, h7⟩, h8, h9⟩, h10, h11⟩, h12⟩, h13, h14⟩
set_option maxRecDepth 100000 in
set_option maxHeartbeats 8000000 in
theorem same14_calls (r q : Rp) (A1 A2 : Option Addr) (c1 c2 : Nat) (w : World) (ha : r.ps.length ≤ 9223372036854775807) (hb : q.ps.length ≤ 9223372036854775807) (h1 : Kd.C k68 w A1 r.ps.length r.ps) (h2 : Kd.C k68 w A2 q.ps.length q.ps) :
    Calls Try.prog 35 #[.agg #[.int .i64 r.k, .int .i64 r.er, .bool r.fd, .string r.val, .slice A1 r.ps.length c1, .int .u32 r.wc, .int .u32 r.wn, .int .u64 r.sp, .int .u32 r.sl, .int .u64 r.ap, .int .u32 r.al, .string r.pr, .int .u64 r.np, .int .u32 r.nl], .agg #[.int .i64 q.k, .int .i64 q.er, .bool q.fd, .string q.val, .slice A2 q.ps.length c2, .int .u32 q.wc, .int .u32 q.wn, .int .u64 q.sp, .int .u32 q.sl, .int .u64 q.ap, .int .u32 q.al, .string q.pr, .int .u64 q.np, .int .u32 q.nl]] w fun e w' => e = .returned (.bool (eqD r q)) ∧ Below w.heap.size w w' := by
  have HPA := Lib.hid (fun W (hB : Below w.heap.size w W) => pairs_calls r.ps q.ps A1 A2 c1 c2 W ha hb (Kd.C_below h1 hB) (Kd.C_below h2 hB))
  have HS := Lib.hid (sP_eq r q)
  have HB0 := Lib.hid (below_alloc' (below_alloc' (Below.refl _ w) (.cells #[.int .i64 r.k, .int .i64 r.er, .bool r.fd, .string r.val, .slice A1 r.ps.length c1, .int .u32 r.wc, .int .u32 r.wn, .int .u64 r.sp, .int .u32 r.sl, .int .u64 r.ap, .int .u32 r.al, .string r.pr, .int .u64 r.np, .int .u32 r.nl] 35)) (.cells #[.int .i64 q.k, .int .i64 q.er, .bool q.fd, .string q.val, .slice A2 q.ps.length c2, .int .u32 q.wc, .int .u32 q.wn, .int .u64 q.sp, .int .u32 q.sl, .int .u64 q.ap, .int .u32 q.al, .string q.pr, .int .u64 q.np, .int .u32 q.nl] 35))
  clear h1 h2
  obtain ⟨k, er, fd, val, ps, wc, wn, sp, sl, ap, al, pr, np, nl⟩ := r
  obtain ⟨k', er', fd', val', ps', wc', wn', sp', sl', ap', al', pr', np', nl'⟩ := q
  dsimp only at *
  generalize eqD ps ps' = pq at *
  by_cases hc : k = k' ∧ er = er' ∧ fd = fd' ∧ val.toList = val'.toList
  case neg =>
    have HCN := Lib.hid hc
    clear hc HPA
    go_enter Try.func35, Try.ntmps35
    go_wp2_with fail
    all_goals first | (exfalso; exact HCN.out ⟨by assumption, by assumption, by assumption, by assumption⟩) | skip
    all_goals go_ret
    all_goals refine ⟨?_, below_alloc' (below_alloc' (Below.refl _ w) _) _⟩
    all_goals rw [← HS.out]
    all_goals simp [sP, *]
  obtain ⟨rfl, rfl, rfl, hv⟩ := hc
  obtain rfl := tl_inj.1 hv
  clear hv
  go_enter Try.func35, Try.ntmps35
  go_wp2_with fail
  refine (HPA.out _ HB0.out).mono ?_
  rintro e w1 ⟨rfl, hB1⟩
  obtain ⟨hc1, hf1⟩ := bcell hB1
  have HB2 := Lib.hid (bel_then HB0.out hB1)
  have hz1 : w.heap.size + 1 < w1.heap.size := by have h1 := hB1.size; simp at h1; omega
  clear hB1 HPA
  cases pq with
  | false =>
    go_wp2_with fail
    go_ret
    refine ⟨?_, HB2.out⟩
    rw [← HS.out]
    simp [sP]
  | true =>
    go_wp2_with fail
    all_goals go_ret
    all_goals refine ⟨?_, HB2.out⟩
    all_goals rw [← HS.out]
    all_goals simp [sP, *]
end Go.Proofs.Ytjfokbkfniilhaa

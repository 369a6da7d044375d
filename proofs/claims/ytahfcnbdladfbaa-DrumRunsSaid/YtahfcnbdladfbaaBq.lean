/- One area alone, wherever it lies; a list of acts, opened. Conditions: those that each theorem names. -/
import Derived.Test.YtahfcnbdladfbaaDi
import Derived.SizedLaws
set_option linter.unusedVariables false
set_option linter.unusedSimpArgs false
namespace Go.Proofs.Ytahfcnbdladfbaa
open Go.RowKit Go.Deep Go.Proofs.YtahfcnbdladfbaaW.PrintWords

/-- One area alone, the n-th. -/
def sole (n : Nat) (b : ByteArray) (s : Nat) : Nat → Ar := fun i => if i = n then some (b, s) else none
theorem sole_at (n : Nat) (b : ByteArray) (s : Nat) : sole n b s n = some (b, s) := if_pos rfl
theorem sole_upd (n : Nat) (b b' : ByteArray) (s s' : Nat) : upd (sole n b s) n (some (b', s')) = sole n b' s' := by
  funext i
  unfold upd sole
  split <;> simp_all
theorem sole_none (n : Nat) (b : ByteArray) (s : Nat) : upd (fun _ => (none : Ar)) n (some (b, s)) = sole n b s := by
  funext i
  unfold upd sole
  split <;> simp_all
theorem sole_used (n : Nat) (hn : n < 4) (b : ByteArray) (s : Nat) : usedTo (sole n b s) 4 = b.size := by
  rcases (show n = 0 ∨ n = 1 ∨ n = 2 ∨ n = 3 by omega) with rfl | rfl | rfl | rfl <;> simp [usedTo, sole, sz]
theorem stepR_go (left : Int) (A : Nat → Ar) (n : Nat) (hn : n < 4) (refuse : Ar → Int) (act : Ar → Ar) (hr : refuse (A n) = 0) (hl : left ≠ 0) : stepR left false A (n : Int) refuse act = (0, max (left - 1) (-1), false, upd A n (act (A n))) := by
  unfold stepR
  rw [if_neg (by decide), if_neg (by omega), Int.toNat_natCast, if_neg (by rw [hr]; decide), if_neg hl]
theorem sole_lay (n : Nat) (hn : n < 4) : stepR (-1) false (fun _ => none) (n : Int) layRef layAct = (0, -1, false, sole n ByteArray.empty 0) := by
  rw [stepR_go (-1) _ n hn _ _ rfl (by decide), ← sole_none]; rfl
theorem sole_write (left l' : Int) (hm : max (left - 1) (-1) = l') (n : Nat) (hn : n < 4) (b x : ByteArray) (s : Nat) (room : Int) (h : ((b.size + x.size : Nat) : Int) ≤ room) (hl : left ≠ 0) : stepR left false (sole n b s) (n : Int) (writeRef (usedTo (sole n b s) 4) x.size room) (writeAct x) = (0, l', false, sole n (b ++ x) s) := by
  rw [stepR_go left _ n hn _ _ (by rw [sole_at, sole_used n hn]; exact if_pos h) hl, hm, sole_at]
  show (_, _, _, upd _ _ (some (b ++ x, s))) = _
  rw [sole_upd]
theorem sole_sync (left l' : Int) (hm : max (left - 1) (-1) = l') (n : Nat) (hn : n < 4) (b : ByteArray) (s : Nat) (hl : left ≠ 0) : stepR left false (sole n b s) (n : Int) thereRef syncAct = (0, l', false, sole n b b.size) := by
  rw [stepR_go left _ n hn _ _ (by rw [sole_at]; rfl) hl, hm, sole_at]
  show (_, _, _, upd _ _ (some (b, b.size))) = _
  rw [sole_upd]
theorem Fit.sole (n : Nat) (hn : n < 4) (b : ByteArray) (s : Nat) (hs : s ≤ b.size) (room left : Int) (hr : (b.size : Int) ≤ room) (hl : -1 ≤ left ∧ left ≤ 9223372036854775807) : Fit room left (sole n b s) := by
  refine ⟨fun i hi b' s' e => ?_, by rw [sole_used n hn]; exact hr, hl⟩
  unfold Go.Proofs.Ytahfcnbdladfbaa.sole at e
  split at e
  · injection e with e; injection e with e1 e2; subst e1 e2; exact hs
  · cases e
theorem stepR_far (left : Int) (down : Bool) (A : Nat → Ar) (n : Int) (refuse : Ar → Int) (act : Ar → Ar) (m : Nat) (hm : n ≠ (m : Int)) : (stepR left down A n refuse act).2.2.2 m = A m := by
  unfold stepR
  split
  · rfl
  · split
    · rfl
    · split
      · rfl
      · split
        · rfl
        · exact upd_ne _ _ (by omega)
theorem fall_kept (xs : List Int) (m : Nat) (hm : m < 4) (A : Nat → Ar) (b : ByteArray) (h : A m = some (b, b.size)) : fallTo xs A 4 m = some (b, b.size) := by
  have e : fallTo xs A 4 m = fallA xs m (A m) := if_pos hm
  rw [e, h]
  have hk : keepN xs m (b.size - b.size) = 0 := by have := keepN_le xs m (b.size - b.size); omega
  show some (b.extract 0 (b.size + keepN xs m (b.size - b.size)), (b.extract 0 (b.size + keepN xs m (b.size - b.size))).size) = _
  rw [hk, Nat.add_zero, ByteArray.extract_zero_size]
theorem far_act (room left : Int) (down : Bool) (A : Nat → Ar) (a : S36) (m : Nat) (hm : m < 4) (b : ByteArray) (h : A m = some (b, b.size)) (hf : a.f1 ≠ (m : Int)) : (doR room left down A a).2.2.2 m = some (b, b.size) := by
  unfold doR
  split
  · rw [stepR_far _ _ _ _ _ _ m hf, h]
  split
  · rw [stepR_far _ _ _ _ _ _ m hf, h]
  split
  · rw [stepR_far _ _ _ _ _ _ m hf, h]
  split
  · rw [stepR_far _ _ _ _ _ _ m hf, h]
  split
  · rw [stepR_far _ _ _ _ _ _ m hf, h]
  split
  · exact h
  split
  · exact fall_kept _ m hm A b h
  · exact h
/-- What an act's type demands. -/
def ActOk (x : S36) : Prop := (-9223372036854775808 ≤ x.f0 ∧ x.f0 ≤ 9223372036854775807) ∧ (-9223372036854775808 ≤ x.f1 ∧ x.f1 ≤ 9223372036854775807) ∧ (-9223372036854775808 ≤ x.f2 ∧ x.f2 ≤ 9223372036854775807) ∧ x.f3.size ≤ 140737488351232
theorem cell_lt {w : World} {a : Addr} {v : Value} (h : w.cell? a = some v) : a.block < w.heap.size := by
  rcases Nat.lt_or_ge a.block w.heap.size with h1 | h1
  · exact h1
  · simp [World.cell?, Array.getElem?_eq_none h1] at h
theorem reads_far {w : World} {R : Option Addr} {xs : List Int} (h : ReadsInt w .i64 R xs.length xs) : ∀ ad, R = some ad → 0 < xs.length → ad.block < w.heap.size := by
  intro ad e h0
  obtain ⟨ad', e', hc⟩ := h.at_ 0 (Int.le_refl _) (by omega)
  rw [e] at e'
  injection e' with e'
  subst e'
  exact cell_lt (a := ad) (by simpa [Addr.add] using hc)
theorem cell_below {w w1 : World} (h : Below w.heap.size w w1) {a : Addr} {v : Value} (hc : w.cell? a = some v) : w1.cell? a = some v := (cell_of_heap (h.block _ (cell_lt hc))).trans hc
theorem act_at {w wr : World} {R : Option Addr} {l : List S36} (hC : k36.C w R l.length l) (hB : Below w.heap.size w wr) (hf : ∀ x ∈ l, ActOk x) (i : Nat) (hi : i < l.length) : ∃ ad B c x, R = some ad ∧ x ∈ l ∧ ActOk x ∧ wr.cell? (ad.add (i * 5)) = some (.int .i64 x.f0) ∧ wr.cell? ⟨(ad.add (i * 5)).block, (ad.add (i * 5)).off + 1, none⟩ = some (.int .i64 x.f1) ∧
    wr.cell? ⟨(ad.add (i * 5)).block, (ad.add (i * 5)).off + 2, none⟩ = some (.int .i64 x.f2) ∧ wr.cell? ⟨(ad.add (i * 5)).block, (ad.add (i * 5)).off + 3, none⟩ = some (.string x.f3) ∧
    wr.cell? ⟨(ad.add (i * 5)).block, (ad.add (i * 5)).off + 4, none⟩ = some (.slice B x.f4.length c) ∧ x.f4.length ≤ c ∧ ReadsInt wr .i64 B x.f4.length x.f4 ∧ ∀ ad, B = some ad → 0 < x.f4.length → ad.block < w.heap.size := by
  obtain ⟨ad, B, c, rfl, k0, k1, k2, k3, k4, hbc, hrd⟩ := at_T36 hC (i : Int) (by omega) (by omega)
  have hx : rd_T36 l (i : Int) ∈ l := by
    unfold rd_T36
    rw [List.getD_eq_getElem?_getD, Int.toNat_natCast, List.getElem?_eq_getElem hi]
    exact List.getElem_mem hi
  rw [Int.toNat_natCast] at k0 k1 k2 k3 k4
  exact ⟨ad, B, c, rd_T36 l (i : Int), rfl, hx, hf _ hx, cell_below hB k0, cell_below hB k1, cell_below hB k2, cell_below hB k3, cell_below hB k4, hbc, hrd.below hB, reads_far hrd⟩
theorem readR_up (A : Nat → Ar) (n : Nat) (hn : n < 4) (b : ByteArray) (s : Nat) (h : A n = some (b, s)) : readR false A (n : Int) = (b, 0) := by
  unfold readR
  rw [if_neg (by decide), if_neg (by omega), Int.toNat_natCast, h]
theorem readR_down (A : Nat → Ar) (n : Int) : readR true A n = (⟨#[]⟩, 11) := if_pos rfl
theorem hasR_at (A : Nat → Ar) (n : Nat) (hn : n < 4) (b : ByteArray) (s : Nat) (h : A n = some (b, s)) : hasR A (n : Int) = true := by
  unfold hasR
  rw [if_neg (by omega), Int.toNat_natCast, h]
  rfl
/-- A list of acts that came in, opened. -/
theorem acts_open {H : Type} {enc : TypeId × Value → H} (W : World) (v0 : Value) (d0 : DataW H) (p0 : List MemPlace)
    (h0 : DataW.Trod enc Try.prog W 0 (fun _ => true) true 34 v0 d0 p0) {base : Nat} (u0 : Value.okWide Try.prog W .any base 34 v0) (z0 : ∀ n ∈ DataW.weights Try.prog 34 d0, n ≤ reachBytes) :
    ∃ (A : Option Addr) (c : Nat) (l : List S36), v0 = .slice A l.length c ∧ l.length ≤ c ∧ k36.C W A l.length l ∧ (∀ x ∈ l, ActOk x) ∧ l.length ≤ 9223372036854775807 := by
  obtain ⟨a, len, cap, rfl⟩ := WideShapes.okWide_slice Try.underlying34 u0
  obtain ⟨fuel, hf⟩ := h0
  obtain ⟨A, c, l, hcs, hlc, hC, hQ⟩ := open_kd (k := k36) (Q := fun a d => Q36 a d) Try.underlying34 (by kernel_rfl) open_S36 hf
  simp only [Value.cells, List.cons.injEq, Value.slice.injEq, and_true] at hcs
  obtain ⟨rfl, rfl, rfl⟩ := hcs
  refine ⟨a, cap, l, rfl, hlc, hC, ?_, hC.2.1⟩
  intro x hx
  rcases hQ with ⟨_, rfl⟩ | ⟨ds, sp, rfl, hl, hq⟩
  · simp at hx
  · obtain ⟨i, hi, rfl⟩ := List.getElem_of_mem hx
    have hid : i < ds.length := by omega
    obtain ⟨e4, hd, q0, q1, q2, q3, q4⟩ := hq i hi hid
    have hz := weights_at Try.underlying34 z0 ds[i] (List.getElem_mem hid)
    rw [hd] at hz
    exact ⟨Go.bounds_i64 q0, Go.bounds_i64 q1, Go.bounds_i64 q2, act_text _ e4 hz⟩
end Go.Proofs.Ytahfcnbdladfbaa

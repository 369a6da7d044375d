/- The document's drum as a state: its room, its fuel, whether it is down, its areas; what each of its functions answers and leaves. Conditions: those that each theorem names. -/
import Derived.Test.YtahfcnbdladfbaaBq
set_option linter.unusedVariables false
set_option linter.unusedSimpArgs false
namespace Go.Proofs.Ytahfcnbdladfbaa
open Go.RowKit Go.Proofs.YtahfcnbdladfbaaW.PrintWords

/-- The sure and the pending bytes of an area. -/
def suR (a : Ar) : ByteArray := match a with
  | none => ⟨#[]⟩
  | some x => x.1.extract 0 x.2
def peR (a : Ar) : ByteArray := match a with
  | none => ⟨#[]⟩
  | some x => x.1.extract x.2 x.1.size
def rcells (room left : Int) (down : Bool) (A : Nat → Ar) : Array Value :=
  #[.int .i64 room, .int .i64 left, .bool down, .bool (A 0).isSome, .string (suR (A 0)), .string (peR (A 0)), .bool (A 1).isSome, .string (suR (A 1)), .string (peR (A 1)), .bool (A 2).isSome, .string (suR (A 2)), .string (peR (A 2)), .bool (A 3).isSome, .string (suR (A 3)), .string (peR (A 3))]
structure IsR (w0 W : World) (g : Nat) (room left : Int) (down : Bool) (A : Nat → Ar) : Prop where
  hb : W.heap[g]? = some (.cells (rcells room left down A) 52 (0, 0))
  hg : w0.heap.size ≤ g
/-- All but block g is as it was. -/
def KeepG (w W : World) (g : Nat) : Prop := w.heap.size ≤ W.heap.size ∧ ∀ k, k < w.heap.size → k ≠ g → W.heap[k]? = w.heap[k]?
theorem KeepG.refl (w : World) (g : Nat) : KeepG w w g := ⟨Nat.le_refl _, fun _ _ _ => rfl⟩
theorem KeepG.trans {w W1 W2 : World} {g : Nat} (h : KeepG w W1 g) (k : KeepG W1 W2 g) : KeepG w W2 g := ⟨Nat.le_trans h.1 k.1, fun i hi hg => (k.2 i (Nat.lt_of_lt_of_le hi h.1) hg).trans (h.2 i hi hg)⟩
theorem KeepG.set {w W : World} {g : Nat} (h : KeepG w W g) (j : Nat) (x : Value) : KeepG w (W.setCell ⟨g, j, none⟩ x) g := h.trans ⟨by simp [World.setCell], fun k _ hk => Below.heap_setCell W ⟨g, j, none⟩ x k hk⟩
theorem KeepG.alloc {w W : World} {g : Nat} (h : KeepG w W g) (o : Obj) : KeepG w (W.alloc o) g := h.trans ⟨(below_alloc (Below.refl _ _) o).size, fun k hk _ => (below_alloc (Below.refl W.heap.size W) o).block k hk⟩
theorem KeepG.drew {w W : World} {g : Nat} (h : KeepG w W g) : KeepG w W.drew g := h
theorem blk_put {W : World} {g : Nat} {cs : Array Value} {t : TypeId} {fr : Nat × Nat} (h : W.heap[g]? = some (.cells cs t fr)) (j : Nat) (x : Value) : (W.setCell ⟨g, j, none⟩ x).heap[g]? = some (.cells (cs.setIfInBounds j x) t fr) := by
  simp only [World.setCell, Array.getElem?_modify, h]
  simp
section
variable {w0 w w1 : World} {g : Nat} {room left : Int} {down : Bool} {A : Nat → Ar}
theorem IsR.move (h : IsR w0 w g room left down A) (hm : w1.heap[g]? = w.heap[g]?) : IsR w0 w1 g room left down A := ⟨hm.trans h.hb, h.hg⟩
theorem IsR.alloc (h : IsR w0 w g room left down A) (o : Obj) : IsR w0 (w.alloc o) g room left down A := h.move ((below_alloc (Below.refl w.heap.size w) o).block g (lt_of_at h.hb))
theorem IsR.drew (h : IsR w0 w g room left down A) : IsR w0 w.drew g room left down A := h.move rfl
theorem IsR.f (h : IsR w0 w g room left down A) (n : Nat) : w.frozen? ⟨g, n, none⟩ = false := blk_frozen h.hb n
theorem IsR.c0 (h : IsR w0 w g room left down A) : w.cell? ⟨g, 0, none⟩ = some (.int .i64 room) := (blk_cell h.hb 0).trans rfl
theorem IsR.c1 (h : IsR w0 w g room left down A) : w.cell? ⟨g, 1, none⟩ = some (.int .i64 left) := (blk_cell h.hb 1).trans rfl
theorem IsR.c2 (h : IsR w0 w g room left down A) : w.cell? ⟨g, 2, none⟩ = some (.bool down) := (blk_cell h.hb 2).trans rfl
theorem IsR.ca (h : IsR w0 w g room left down A) (n : Nat) (hn : n < 4) : w.cell? ⟨g, 3 + n * 3, none⟩ = some (.bool (A n).isSome) ∧ w.cell? ⟨g, 3 + n * 3 + 1, none⟩ = some (.string (suR (A n))) ∧ w.cell? ⟨g, 3 + n * 3 + 2, none⟩ = some (.string (peR (A n))) := by
  rcases (show n = 0 ∨ n = 1 ∨ n = 2 ∨ n = 3 by omega) with rfl | rfl | rfl | rfl <;> exact ⟨(blk_cell h.hb _).trans rfl, (blk_cell h.hb _).trans rfl, (blk_cell h.hb _).trans rfl⟩
theorem IsR.setLeft (h : IsR w0 w g room left down A) (x : Int) : IsR w0 (w.setCell ⟨g, 1, none⟩ (.int .i64 x)) g room x down A := ⟨(blk_put h.hb 1 _).trans rfl, h.hg⟩
theorem IsR.setDown (h : IsR w0 w g room left down A) (x : Bool) : IsR w0 (w.setCell ⟨g, 2, none⟩ (.bool x)) g room left x A := ⟨(blk_put h.hb 2 _).trans rfl, h.hg⟩
theorem IsR.put (h : IsR w0 w g room left down A) (n : Nat) (hn : n < 4) (a : Ar) (i : Bool) (s p : ByteArray) (hi : i = a.isSome) (hs : s = suR a) (hp : p = peR a) : IsR w0 (((w.setCell ⟨g, 3 + n * 3, none⟩ (.bool i)).setCell ⟨g, 3 + n * 3 + 1, none⟩ (.string s)).setCell ⟨g, 3 + n * 3 + 2, none⟩ (.string p)) g room left down (upd A n a) := by
  subst hi hs hp
  refine ⟨(blk_put (blk_put (blk_put h.hb _ _) _ _) _ _).trans ?_, h.hg⟩
  rcases (show n = 0 ∨ n = 1 ∨ n = 2 ∨ n = 3 by omega) with rfl | rfl | rfl | rfl <;> rfl
/-- What burn answers and leaves. -/
def BurnR (w0 w : World) (g : Nat) (room left : Int) (down : Bool) (A : Nat → Ar) (e : Ending) (w' : World) : Prop := Below w0.heap.size w0 w' ∧ KeepG w w' g ∧
    ((left = 0 ∧ e = .returned (.bool false) ∧ IsR w0 w' g room left true A) ∨ (left ≠ 0 ∧ e = .returned (.bool true) ∧ IsR w0 w' g room (max (left - 1) (-1)) down A))
theorem burn_calls (hI : IsR w0 w g room left down A) (hB : Below w0.heap.size w0 w) (hl : -1 ≤ left ∧ left ≤ 9223372036854775807) : Calls Try.prog 39 #[.pointer (some ⟨g, 0, none⟩)] w (BurnR w0 w g room left down A) := by
  have c1 := hI.c1
  have c2 := hI.c2
  have f1 := hI.f 1
  have f2 := hI.f 2
  have HI := Lib.hid hI
  have HB := Lib.hid hB
  clear hI hB
  obtain ⟨hl0, hl1⟩ := hl
  rcases (show left = 0 ∨ left = -1 ∨ 1 ≤ left by omega) with h0 | h0 | h0
  · subst h0
    go_enter Try.func39, Try.ntmps39
    go_wp2_with fail
    go_ret
    exact ⟨HB.out.setCell HI.out.hg _, (KeepG.refl _ _).set _ _, .inl ⟨rfl, rfl, HI.out.setDown true⟩⟩
  · subst h0
    go_enter Try.func39, Try.ntmps39
    go_wp2_with fail
    go_ret
    exact ⟨HB.out, KeepG.refl _ _, .inr ⟨by decide, rfl, HI.out⟩⟩
  · have hm2 : max (left - 1) (-1) = left - 1 := by omega
    have HM := Lib.hid hm2
    have hn0 : ¬ left = 0 := by omega
    clear hm2
    go_enter Try.func39, Try.ntmps39
    go_wp2_with fail
    go_ret
    exact ⟨HB.out.setCell HI.out.hg _, (KeepG.refl _ _).set _ _, .inr ⟨hn0, rfl, by rw [HM.out]; exact HI.out.setLeft _⟩⟩
def thereR (down : Bool) (A : Nat → Ar) (n : Int) : Int := if down then 11 else if n < 0 ∨ 4 ≤ n then 1 else if (A n.toNat).isSome then 0 else 12
theorem rthere_calls (n : Int) (hI : IsR w0 w g room left down A) : Calls Try.prog 40 #[.pointer (some ⟨g, 0, none⟩), .int .i64 n] w fun e w' => e = .returned (.int .i64 (thereR down A n)) ∧ w' = w := by
  have c2 := hI.c2
  cases down with
  | true =>
    have HR : Hid (thereR true A n = 11) := rfl
    clear hI
    go_enter Try.func40, Try.ntmps40
    go_wp2_with fail
    go_ret
    exact ⟨by rw [HR.out]; rfl, rfl⟩
  | false =>
    rcases (show n < 0 ∨ (0 ≤ n ∧ 4 ≤ n) ∨ (0 ≤ n ∧ n < 4) by omega) with hn | ⟨hn0, hn⟩ | ⟨hn0, hn4⟩
    · have HR : Hid (thereR false A n = 1) := Lib.hid (by unfold thereR; rw [if_neg (by decide), if_pos (.inl hn)])
      clear hI
      go_enter Try.func40, Try.ntmps40
      go_wp2_with fail
      go_ret
      exact ⟨by rw [HR.out]; rfl, rfl⟩
    · have HR : Hid (thereR false A n = 1) := Lib.hid (by unfold thereR; rw [if_neg (by decide), if_pos (.inr hn)])
      clear hI
      go_enter Try.func40, Try.ntmps40
      go_wp2_with fail
      go_ret
      exact ⟨by rw [HR.out]; rfl, rfl⟩
    · obtain ⟨i, rfl⟩ : ∃ i : Nat, n = (i : Int) := ⟨n.toNat, by omega⟩
      have hi : i < 4 := by omega
      obtain ⟨k0, _, _⟩ := hI.ca i hi
      have HR0 : Hid (thereR false A (i : Int) = if (A i).isSome then 0 else 12) := Lib.hid (by unfold thereR; rw [if_neg (by decide), if_neg (by omega), Int.toNat_natCast])
      clear hI hn0
      generalize (A i).isSome = b at *
      cases b
      · have HR : Hid (thereR false A (i : Int) = 12) := Lib.hid (HR0.out.trans rfl)
        clear HR0
        go_enter Try.func40, Try.ntmps40
        go_wp2_with fail
        go_ret
        exact ⟨by rw [HR.out]; rfl, rfl⟩
      · have HR : Hid (thereR false A (i : Int) = 0) := Lib.hid (HR0.out.trans rfl)
        clear HR0
        go_enter Try.func40, Try.ntmps40
        go_wp2_with fail
        go_ret
        exact ⟨by rw [HR.out]; rfl, rfl⟩
end
end Go.Proofs.Ytahfcnbdladfbaa

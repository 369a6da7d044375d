/- The document's drum: Lay, Cut, Trim, Write, Sync, Read, Used, Has. Conditions: those that each theorem names. -/
import Derived.Test.YtahfcnbdladfbaaRa
set_option linter.unusedVariables false
set_option linter.unusedSimpArgs false
namespace Go.Proofs.Ytahfcnbdladfbaa
open Go.RowKit Go.Proofs.YtahfcnbdladfbaaW.PrintWords

/-- The document's drum behind a step. -/
def AtR (w0 w w' : World) (g : Nat) (room : Int) (r : Int × Int × Bool × (Nat → Ar)) : Prop := IsR w0 w' g room r.2.1 r.2.2.1 r.2.2.2 ∧ Below w0.heap.size w0 w' ∧ KeepG w w' g
theorem su_pe (b : ByteArray) (s : Nat) (h : s ≤ b.size) : b.extract 0 s ++ b.extract s b.size = b := by
  rw [ByteArray.extract_append_extract]
  rw [show min 0 s = 0 by omega, show max s b.size = b.size by omega]
  exact ByteArray.extract_zero_size
theorem ext_self (b : ByteArray) : b.extract 0 b.size = b := ByteArray.extract_zero_size
theorem ext_none (b : ByteArray) : b.extract b.size b.size = ⟨#[]⟩ := by
  apply bytes_ext
  unfold bytesOf
  rw [ByteArray.data_extract]
  simp
section
variable {w0 w w1 : World} {g : Nat} {room left : Int} {down : Bool} {A : Nat → Ar}
theorem stepR_ways (left : Int) (down : Bool) (A : Nat → Ar) (n : Int) (refuse : Ar → Int) (act : Ar → Ar) :
    (down = true ∧ stepR left down A n refuse act = (11, left, true, A)) ∨ (down = false ∧ (n < 0 ∨ (0 ≤ n ∧ 4 ≤ n)) ∧ stepR left down A n refuse act = (1, left, false, A)) ∨
    (down = false ∧ ∃ i : Nat, n = (i : Int) ∧ i < 4 ∧ refuse (A i) ≠ 0 ∧ stepR left down A n refuse act = (refuse (A i), left, false, A)) ∨
    (down = false ∧ ∃ i : Nat, n = (i : Int) ∧ i < 4 ∧ refuse (A i) = 0 ∧ left = 0 ∧ stepR left down A n refuse act = (11, 0, true, A)) ∨
    (down = false ∧ ∃ i : Nat, n = (i : Int) ∧ i < 4 ∧ refuse (A i) = 0 ∧ left ≠ 0 ∧ stepR left down A n refuse act = (0, max (left - 1) (-1), false, upd A i (act (A i)))) := by
  unfold stepR
  cases down with
  | true => exact .inl ⟨rfl, if_pos rfl⟩
  | false =>
    refine .inr ?_
    rw [if_neg (by decide)]
    rcases (show (n < 0 ∨ (0 ≤ n ∧ 4 ≤ n)) ∨ (0 ≤ n ∧ n < 4) by omega) with hn | ⟨hn0, hn4⟩
    · exact .inl ⟨rfl, hn, if_pos (by omega)⟩
    · refine .inr ?_
      obtain ⟨i, rfl⟩ : ∃ i : Nat, n = (i : Int) := ⟨n.toNat, by omega⟩
      rw [if_neg (by omega), Int.toNat_natCast]
      by_cases hr : refuse (A i) = 0
      · refine .inr ?_
        rw [if_neg (by rw [hr]; decide)]
        by_cases hl : left = 0
        · subst hl
          exact .inl ⟨rfl, i, rfl, by omega, hr, rfl, if_pos rfl⟩
        · exact .inr ⟨rfl, i, rfl, by omega, hr, hl, if_neg hl⟩
      · exact .inl ⟨rfl, i, rfl, by omega, hr, if_pos hr⟩
theorem isSome_lay (a : Ar) (h : layRef a = 0) : a.isSome = false := by
  unfold layRef at h
  cases hb : a.isSome
  · rfl
  · rw [hb] at h; cases h
theorem isSome_lay1 (a : Ar) (h : layRef a ≠ 0) : a.isSome = true ∧ layRef a = 1 := by
  unfold layRef at *
  cases hb : a.isSome
  · rw [hb] at h; exact absurd rfl h
  · exact ⟨rfl, rfl⟩
set_option maxRecDepth 100000 in
set_option maxHeartbeats 4000000 in
theorem rlay_calls (n : Int) (hI : IsR w0 w g room left down A) (hB : Below w0.heap.size w0 w) (hl : -1 ≤ left ∧ left ≤ 9223372036854775807) (hn64 : -9223372036854775808 ≤ n ∧ n ≤ 9223372036854775807) :
    Calls Try.prog 20 #[.pointer (some ⟨g, 0, none⟩), .int .i64 n] w fun e w' => e = .returned (.int .i64 (stepR left down A n layRef layAct).1) ∧ AtR w0 w w' g room (stepR left down A n layRef layAct) := by
  have c2 := hI.c2
  have HI := Lib.hid hI
  have HB := Lib.hid hB
  clear hI hB
  rcases stepR_ways left down A n layRef layAct with ⟨rfl, hr⟩ | ⟨rfl, hn, hr⟩ | ⟨rfl, i, rfl, hi, ha, hr⟩ | ⟨rfl, i, rfl, hi, ha, rfl, hr⟩ | ⟨rfl, i, rfl, hi, ha, hl0, hr⟩
  · rw [hr]
    clear hr
    go_enter Try.func20, Try.ntmps20
    go_wp2_with fail
    go_ret
    exact ⟨rfl, HI.out, HB.out, KeepG.refl _ _⟩
  · rw [hr]
    clear hr
    rcases hn with hn | ⟨hn0, hn⟩
    · go_enter Try.func20, Try.ntmps20
      go_wp2_with fail
      go_ret
      exact ⟨rfl, HI.out, HB.out, KeepG.refl _ _⟩
    · go_enter Try.func20, Try.ntmps20
      go_wp2_with fail
      go_ret
      exact ⟨rfl, HI.out, HB.out, KeepG.refl _ _⟩
  · rw [hr]
    obtain ⟨h1, h2⟩ := isSome_lay1 _ ha
    rw [h2]
    clear hr ha h2
    have k0 := (HI.out.ca i hi).1
    rw [h1] at k0
    clear h1
    go_enter Try.func20, Try.ntmps20
    go_wp2_with fail
    go_ret
    exact ⟨rfl, HI.out, HB.out, KeepG.refl _ _⟩
  · rw [hr]
    have k0 := (HI.out.ca i hi).1
    rw [isSome_lay _ ha] at k0
    clear hr ha
    go_enter Try.func20, Try.ntmps20
    go_wp2_with fail
    refine (burn_calls HI.out HB.out hl).mono ?_
    rintro e w2 ⟨hB, hK, ⟨_, rfl, hI⟩ | ⟨hx, _⟩⟩
    · have HI2 := Lib.hid hI
      have HB2 := Lib.hid hB
      have HK2 := Lib.hid hK
      clear hI hB hK
      go_wp2_with fail
      go_ret
      exact ⟨rfl, HI2.out, HB2.out, HK2.out⟩
    · exact absurd rfl hx
  · rw [hr]
    have k0 := (HI.out.ca i hi).1
    rw [isSome_lay _ ha] at k0
    have HL0 := Lib.hid hl0
    clear hr ha hl0
    go_enter Try.func20, Try.ntmps20
    go_wp2_with fail
    refine (burn_calls HI.out HB.out hl).mono ?_
    rintro e w2 ⟨hB, hK, ⟨hx, _⟩ | ⟨_, rfl, hI⟩⟩
    · exact absurd hx HL0.out
    · obtain ⟨k0, k1, k2⟩ := hI.ca i hi
      have f0 := hI.f (3 + i * 3)
      have f1 := hI.f (3 + i * 3 + 1)
      have f2 := hI.f (3 + i * 3 + 2)
      have HI2 := Lib.hid hI
      have HB2 := Lib.hid hB
      have HK2 := Lib.hid hK
      clear hI hB hK c2
      go_wp2_with fail
      go_ret
      exact ⟨rfl, HI2.out.put i hi (some (ByteArray.empty, 0)) true ⟨#[]⟩ ⟨#[]⟩ rfl rfl rfl, ((HB2.out.setCell HI2.out.hg _).setCell HI2.out.hg _).setCell HI2.out.hg _, ((HK2.out.set _ _).set _ _).set _ _⟩
end
end Go.Proofs.Ytahfcnbdladfbaa

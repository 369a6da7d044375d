/- The document's drum: New, Write, Read, Fall. Conditions: those that each theorem names. -/
import Derived.Test.YtahfcnbdladfbaaRc
set_option linter.unusedVariables false
set_option linter.unusedSimpArgs false
namespace Go.Proofs.Ytahfcnbdladfbaa
open Go.RowKit Go.Proofs.YtahfcnbdladfbaaW.PrintWords

section
variable {w0 w w1 : World} {g : Nat} {room left : Int} {down : Bool} {A : Nat → Ar}
theorem rnew_calls (room : Int) (hr : -9223372036854775808 ≤ room ∧ room ≤ 9223372036854775807) (w0 w : World) (hB : Below w0.heap.size w0 w) :
    Calls Try.prog 18 #[.int .i64 room] w fun e w' => Below w.heap.size w w' ∧ if room < 0 ∨ 1048576 < room then e = .returned (.tuple #[.pointer none, .int .i64 1]) else ∃ g, e = .returned (.tuple #[.pointer (some ⟨g, 0, none⟩), .int .i64 0]) ∧ w.heap.size ≤ g ∧ IsR w0 w' g room (-1) false (fun _ => none) := by
  have HB := Lib.hid hB
  clear hB
  rcases (show room < 0 ∨ (0 ≤ room ∧ 1048576 < room) ∨ (0 ≤ room ∧ room ≤ 1048576) by omega) with h | ⟨h0, h⟩ | ⟨h0, h⟩
  · have HR := Lib.hid (show (room < 0 ∨ 1048576 < room) from .inl h)
    go_enter Try.func18, Try.ntmps18
    go_wp2_with fail
    go_ret2
    exact ⟨Below.refl _ _, rfl⟩
  · have HR := Lib.hid (show (room < 0 ∨ 1048576 < room) from .inr h)
    go_enter Try.func18, Try.ntmps18
    go_wp2_with fail
    go_ret2
    exact ⟨Below.refl _ _, rfl⟩
  · go_enter Try.func18, Try.ntmps18
    go_wp2_with fail
    go_ret2
    refine ⟨below_alloc (Below.refl _ _) _, ?_⟩
    skip
    exact ⟨w.heap.size, rfl, Nat.le_refl _, heap_alloc_new w _, HB.out.size⟩
/-- The ways of a Write. -/
theorem write_ways (x : ByteArray) (n : Int) :
    (down = true ∧ stepR left down A n (writeRef (usedTo A 4) x.size room) (writeAct x) = (11, left, true, A)) ∨ (down = false ∧ (n < 0 ∨ (0 ≤ n ∧ 4 ≤ n)) ∧ stepR left down A n (writeRef (usedTo A 4) x.size room) (writeAct x) = (1, left, false, A)) ∨
    (down = false ∧ ∃ i : Nat, n = (i : Int) ∧ i < 4 ∧ A i = none ∧ stepR left down A n (writeRef (usedTo A 4) x.size room) (writeAct x) = (12, left, false, A)) ∨
    (down = false ∧ ∃ (i : Nat) (b : ByteArray) (s : Nat), n = (i : Int) ∧ i < 4 ∧ A i = some (b, s) ∧ room < ((usedTo A 4 + x.size : Nat) : Int) ∧ stepR left down A n (writeRef (usedTo A 4) x.size room) (writeAct x) = (10, left, false, A)) ∨
    (down = false ∧ ∃ (i : Nat) (b : ByteArray) (s : Nat), n = (i : Int) ∧ i < 4 ∧ A i = some (b, s) ∧ ((usedTo A 4 + x.size : Nat) : Int) ≤ room ∧ left = 0 ∧ stepR left down A n (writeRef (usedTo A 4) x.size room) (writeAct x) = (11, 0, true, A)) ∨
    (down = false ∧ ∃ (i : Nat) (b : ByteArray) (s : Nat), n = (i : Int) ∧ i < 4 ∧ A i = some (b, s) ∧ ((usedTo A 4 + x.size : Nat) : Int) ≤ room ∧ left ≠ 0 ∧ stepR left down A n (writeRef (usedTo A 4) x.size room) (writeAct x) = (0, max (left - 1) (-1), false, upd A i (some (b ++ x, s)))) := by
  have hwr : ∀ b s, writeRef (usedTo A 4) x.size room (some (b, s)) = if ((usedTo A 4 + x.size : Nat) : Int) ≤ room then 0 else 10 := fun _ _ => rfl
  rcases stepR_ways left down A n (writeRef (usedTo A 4) x.size room) (writeAct x) with h | h | ⟨h0, i, h1, h2, h3, h4⟩ | ⟨h0, i, h1, h2, h3, h4, h5⟩ | ⟨h0, i, h1, h2, h3, h4, h5⟩
  · exact .inl h
  · exact .inr (.inl h)
  · cases hA : A i with
    | none => rw [hA] at h4; exact .inr (.inr (.inl ⟨h0, i, h1, h2, hA, h4⟩))
    | some y =>
      obtain ⟨b, s⟩ := y
      rw [hA, hwr] at h3 h4
      by_cases hc : ((usedTo A 4 + x.size : Nat) : Int) ≤ room
      · rw [if_pos hc] at h3; exact absurd rfl h3
      · rw [if_neg hc] at h4
        exact .inr (.inr (.inr (.inl ⟨h0, i, b, s, h1, h2, hA, by omega, h4⟩)))
  all_goals
    cases hA : A i with
    | none => rw [hA] at h3; exact absurd (show (12 : Int) = 0 from h3) (by decide)
    | some y =>
      obtain ⟨b, s⟩ := y
      have hc : ((usedTo A 4 + x.size : Nat) : Int) ≤ room := by
        rw [hA, hwr] at h3
        by_cases hc : ((usedTo A 4 + x.size : Nat) : Int) ≤ room
        · exact hc
        · rw [if_neg hc] at h3; cases h3
      try rw [hA] at h5
      first
        | exact .inr (.inr (.inr (.inr (.inl ⟨h0, i, b, s, h1, h2, hA, hc, h4, h5⟩))))
        | exact .inr (.inr (.inr (.inr (.inr ⟨h0, i, b, s, h1, h2, hA, hc, h4, h5⟩))))
set_option maxRecDepth 100000 in
set_option maxHeartbeats 4000000 in
theorem rwrite_calls (n : Int) (x : ByteArray) (hI : IsR w0 w g room left down A) (hB : Below w0.heap.size w0 w) (hl : -1 ≤ left ∧ left ≤ 9223372036854775807) (hn64 : -9223372036854775808 ≤ n ∧ n ≤ 9223372036854775807) (hsb : Sb A) (hu : usedTo A 4 ≤ 140737488355328) (hx : x.size ≤ 140737488355328) :
    Calls Try.prog 23 #[.pointer (some ⟨g, 0, none⟩), .int .i64 n, .string x] w fun e w' => e = .returned (.int .i64 (stepR left down A n (writeRef (usedTo A 4) x.size room) (writeAct x)).1) ∧ AtR w0 w w' g room (stepR left down A n (writeRef (usedTo A 4) x.size room) (writeAct x)) := by
  have HI := Lib.hid hI
  have HB := Lib.hid hB
  have HSB := Lib.hid hsb
  have HU := Lib.hid hu
  rcases write_ways (room := room) (left := left) (down := down) (A := A) x n with ⟨rfl, hr⟩ | ⟨rfl, hn, hr⟩ | ⟨rfl, i, rfl, hi, hA, hr⟩ | ⟨rfl, i, b, s, rfl, hi, hA, hzr, hr⟩ | ⟨rfl, i, b, s, rfl, hi, hA, hzr, rfl, hr⟩ | ⟨rfl, i, b, s, rfl, hi, hA, hzr, hl0, hr⟩
  · rw [hr]
    clear hr hI hB hsb hu
    go_enter Try.func23, Try.ntmps23
    go_wp2_with fail
    refine (rthere_calls n HI.out).mono ?_
    rintro e w2 ⟨rfl, rfl⟩
    rw [show thereR true A n = 11 from rfl]
    go_wp2_with fail
    go_ret
    exact ⟨rfl, HI.out, HB.out, KeepG.refl _ _⟩
  · rw [hr]
    have ht : thereR false A n = 1 := by unfold thereR; rw [if_neg (by decide), if_pos (by omega)]
    have HT := Lib.hid ht
    clear hr ht hn hI hB hsb hu
    go_enter Try.func23, Try.ntmps23
    go_wp2_with fail
    refine (rthere_calls n HI.out).mono ?_
    rintro e w2 ⟨rfl, rfl⟩
    rw [HT.out]
    go_wp2_with fail
    go_ret
    exact ⟨rfl, HI.out, HB.out, KeepG.refl _ _⟩
  · rw [hr]
    have HT := Lib.hid (show thereR false A (i : Int) = 12 by unfold thereR; rw [if_neg (by decide), if_neg (by omega), Int.toNat_natCast, hA]; rfl)
    clear hr hA hI hB hsb hu
    go_enter Try.func23, Try.ntmps23
    go_wp2_with fail
    refine (rthere_calls (i : Int) HI.out).mono ?_
    rintro e w1 ⟨rfl, rfl⟩
    rw [HT.out]
    go_wp2_with fail
    go_ret
    exact ⟨rfl, HI.out, HB.out, KeepG.refl _ _⟩
  · have hs := HSB.out i hi b s hA
    have hbz : b.size ≤ 140737488355328 := by have h1 := sz_le A i hi; rw [hA] at h1; have h2 : b.size ≤ usedTo A 4 := h1; omega
    have HT := Lib.hid (show thereR false A (i : Int) = 0 by unfold thereR; rw [if_neg (by decide), if_neg (by omega), Int.toNat_natCast, hA]; rfl)
    have HA := Lib.hid hA
    have HK : Hid (∀ w', Drawn0 w w' → (Drawn0 w w' ∧ w'.cell? ⟨g, 0, none⟩ = some (.int .i64 room))) := Lib.hid (by
      rintro w' ⟨m, rfl⟩; exact ⟨⟨m, rfl⟩, HI.out.c0⟩)
    have HC : Hid (∀ w', Drawn0 w w' → Calls Try.prog 26 #[.pointer (some ⟨g, 0, none⟩)] w' fun e w'' => e = .returned (.int .i64 (usedTo A 4 : Int)) ∧ Drawn0 w w'') := Lib.hid (by
      rintro w' ⟨m, rfl⟩
      refine (rused_calls (w := w.drewN m) (HI.out.drewN m) HSB.out (by have := HU.out; omega)).mono ?_
      rintro e w'' ⟨rfl, ⟨m2, rfl⟩⟩
      exact ⟨rfl, m + m2, by simp [World.drewN, Nat.add_assoc]⟩)
    have hw : IntKind.i64.wrap ((usedTo A 4 + x.size : Nat) : Int) = ((usedTo A 4 + x.size : Nat) : Int) := by rw [IntKind.wrap_i64]; omega
    have hww : (usedTo A 4 : Int) + (x.size : Int) = ((usedTo A 4 + x.size : Nat) : Int) := by omega
    have c0 := HI.out.c0
    clear hI hB hsb hu hA
    generalize hz : usedTo A 4 + x.size = z at *
    have HZ := Lib.hid hz
    clear hz
    generalize huu : usedTo A 4 = uu at *
    have HUU := Lib.hid huu
    clear huu
    rw [hr]
    clear hr
    go_enter Try.func23, Try.ntmps23
    go_wp2_with fail
    refine (rthere_calls (i : Int) HI.out).mono ?_
    rintro e w1 ⟨rfl, rfl⟩
    rw [HT.out]
    go_wp2_with fail
    go_region_held3 (fun w' => Drawn0 w1 w' ∧ w'.cell? ⟨g, 0, none⟩ = some (.int .i64 room)) (first | exact HK.out _ ⟨1, rfl⟩ | exact HK.out _ (by assumption) | go_keep) (first | (go_at_call 26; refine (HC.out _ (by first | assumption | exact And.left (by assumption) | exact ⟨1, rfl⟩)).mono ?_; rintro e w6 ⟨rfl, hD6⟩))
    have HD := Lib.hid hD6
    clear hD6 c0 HC HK
    go_wp2_with fail
    go_ret
    obtain ⟨m, hm⟩ := HD.out
    exact ⟨rfl, by rw [hm]; exact HI.out.drewN m, by rw [hm]; exact pw_below_drewN HB.out m, by rw [hm]; exact (KeepG.refl _ _).drewN m⟩
  · have hs := HSB.out i hi b s hA
    have hbz : b.size ≤ 140737488355328 := by have h1 := sz_le A i hi; rw [hA] at h1; have h2 : b.size ≤ usedTo A 4 := h1; omega
    have HT := Lib.hid (show thereR false A (i : Int) = 0 by unfold thereR; rw [if_neg (by decide), if_neg (by omega), Int.toNat_natCast, hA]; rfl)
    have HA := Lib.hid hA
    have HK : Hid (∀ w', Drawn0 w w' → (Drawn0 w w' ∧ w'.cell? ⟨g, 0, none⟩ = some (.int .i64 room))) := Lib.hid (by
      rintro w' ⟨m, rfl⟩; exact ⟨⟨m, rfl⟩, HI.out.c0⟩)
    have HC : Hid (∀ w', Drawn0 w w' → Calls Try.prog 26 #[.pointer (some ⟨g, 0, none⟩)] w' fun e w'' => e = .returned (.int .i64 (usedTo A 4 : Int)) ∧ Drawn0 w w'') := Lib.hid (by
      rintro w' ⟨m, rfl⟩
      refine (rused_calls (w := w.drewN m) (HI.out.drewN m) HSB.out (by have := HU.out; omega)).mono ?_
      rintro e w'' ⟨rfl, ⟨m2, rfl⟩⟩
      exact ⟨rfl, m + m2, by simp [World.drewN, Nat.add_assoc]⟩)
    have hw : IntKind.i64.wrap ((usedTo A 4 + x.size : Nat) : Int) = ((usedTo A 4 + x.size : Nat) : Int) := by rw [IntKind.wrap_i64]; omega
    have hww : (usedTo A 4 : Int) + (x.size : Int) = ((usedTo A 4 + x.size : Nat) : Int) := by omega
    have c0 := HI.out.c0
    clear hI hB hsb hu hA
    generalize hz : usedTo A 4 + x.size = z at *
    have HZ := Lib.hid hz
    clear hz
    generalize huu : usedTo A 4 = uu at *
    have HUU := Lib.hid huu
    clear huu
    rw [hr]
    clear hr
    go_enter Try.func23, Try.ntmps23
    go_wp2_with fail
    refine (rthere_calls (i : Int) HI.out).mono ?_
    rintro e w1 ⟨rfl, rfl⟩
    rw [HT.out]
    go_wp2_with fail
    go_region_held3 (fun w' => Drawn0 w1 w' ∧ w'.cell? ⟨g, 0, none⟩ = some (.int .i64 room)) (first | exact HK.out _ ⟨1, rfl⟩ | exact HK.out _ (by assumption) | go_keep) (first | (go_at_call 26; refine (HC.out _ (by first | assumption | exact And.left (by assumption) | exact ⟨1, rfl⟩)).mono ?_; rintro e w6 ⟨rfl, hD6⟩))
    have HD := Lib.hid hD6
    clear hD6 c0 HC HK
    go_wp2_with fail
    obtain ⟨m, hm⟩ := HD.out
    have HI6 := Lib.hid (show IsR w0 w6 g room 0 false A by rw [hm]; exact HI.out.drewN m)
    have HB6 := Lib.hid (show Below w0.heap.size w0 w6 by rw [hm]; exact pw_below_drewN HB.out m)
    have HK6 := Lib.hid (show KeepG w1 w6 g by rw [hm]; exact (KeepG.refl _ _).drewN m)
    clear hm
    refine (burn_calls HI6.out HB6.out hl).mono ?_
    rintro e w2 ⟨hB, hK, ⟨_, rfl, hI⟩ | ⟨hx, _⟩⟩
    · have HI2 := Lib.hid hI
      have HB2 := Lib.hid hB
      have HK2 := Lib.hid hK
      clear hI hB hK
      go_wp2_with fail
      go_ret
      exact ⟨rfl, HI2.out, HB2.out, HK6.out.trans HK2.out⟩
    · exact absurd rfl hx
  · have HL0 := Lib.hid hl0
    clear hl0
    have hs := HSB.out i hi b s hA
    have hbz : b.size ≤ 140737488355328 := by have h1 := sz_le A i hi; rw [hA] at h1; have h2 : b.size ≤ usedTo A 4 := h1; omega
    have HT := Lib.hid (show thereR false A (i : Int) = 0 by unfold thereR; rw [if_neg (by decide), if_neg (by omega), Int.toNat_natCast, hA]; rfl)
    have HA := Lib.hid hA
    have HK : Hid (∀ w', Drawn0 w w' → (Drawn0 w w' ∧ w'.cell? ⟨g, 0, none⟩ = some (.int .i64 room))) := Lib.hid (by
      rintro w' ⟨m, rfl⟩; exact ⟨⟨m, rfl⟩, HI.out.c0⟩)
    have HC : Hid (∀ w', Drawn0 w w' → Calls Try.prog 26 #[.pointer (some ⟨g, 0, none⟩)] w' fun e w'' => e = .returned (.int .i64 (usedTo A 4 : Int)) ∧ Drawn0 w w'') := Lib.hid (by
      rintro w' ⟨m, rfl⟩
      refine (rused_calls (w := w.drewN m) (HI.out.drewN m) HSB.out (by have := HU.out; omega)).mono ?_
      rintro e w'' ⟨rfl, ⟨m2, rfl⟩⟩
      exact ⟨rfl, m + m2, by simp [World.drewN, Nat.add_assoc]⟩)
    have hw : IntKind.i64.wrap ((usedTo A 4 + x.size : Nat) : Int) = ((usedTo A 4 + x.size : Nat) : Int) := by rw [IntKind.wrap_i64]; omega
    have hww : (usedTo A 4 : Int) + (x.size : Int) = ((usedTo A 4 + x.size : Nat) : Int) := by omega
    have c0 := HI.out.c0
    clear hI hB hsb hu hA
    generalize hz : usedTo A 4 + x.size = z at *
    have HZ := Lib.hid hz
    clear hz
    generalize huu : usedTo A 4 = uu at *
    have HUU := Lib.hid huu
    clear huu
    rw [hr]
    clear hr
    go_enter Try.func23, Try.ntmps23
    go_wp2_with fail
    refine (rthere_calls (i : Int) HI.out).mono ?_
    rintro e w1 ⟨rfl, rfl⟩
    rw [HT.out]
    go_wp2_with fail
    go_region_held3 (fun w' => Drawn0 w1 w' ∧ w'.cell? ⟨g, 0, none⟩ = some (.int .i64 room)) (first | exact HK.out _ ⟨1, rfl⟩ | exact HK.out _ (by assumption) | go_keep) (first | (go_at_call 26; refine (HC.out _ (by first | assumption | exact And.left (by assumption) | exact ⟨1, rfl⟩)).mono ?_; rintro e w6 ⟨rfl, hD6⟩))
    have HD := Lib.hid hD6
    clear hD6 c0 HC HK
    go_wp2_with fail
    obtain ⟨m, hm⟩ := HD.out
    have HI6 := Lib.hid (show IsR w0 w6 g room left false A by rw [hm]; exact HI.out.drewN m)
    have HB6 := Lib.hid (show Below w0.heap.size w0 w6 by rw [hm]; exact pw_below_drewN HB.out m)
    have HK6 := Lib.hid (show KeepG w1 w6 g by rw [hm]; exact (KeepG.refl _ _).drewN m)
    clear hm
    refine (burn_calls HI6.out HB6.out hl).mono ?_
    rintro e w2 ⟨hB, hK, ⟨hx, _⟩ | ⟨_, rfl, hI⟩⟩
    · exact absurd hx HL0.out
    · obtain ⟨k0, k1, k2⟩ := hI.ca i hi
      rw [HA.out] at k0 k1 k2
      have f0 := hI.f (3 + i * 3)
      have f1 := hI.f (3 + i * 3 + 1)
      have f2 := hI.f (3 + i * 3 + 2)
      have hgl := lt_of_at hI.hb
      have hi4 : (i : Int) < 4 := by omega
      have HI2 := Lib.hid hI
      have HB2 := Lib.hid hB
      have HK2 := Lib.hid hK
      have HS := Lib.hid (wr_su b x s hs)
      have HP := Lib.hid (wr_pe b x s hs)
      have hsz := su_size (some (b, s)) (fun b' s' e => by cases e; exact hs)
      have hpz : (peR (some (b, s))).size ≤ 140737488355328 := by have h1 : sz (some (b, s)) = b.size := rfl; omega
      clear hI hB hK hsz
      generalize suR (some (b, s)) = su at *
      generalize peR (some (b, s)) = pe at *
      have hnl : ¬ 9223372036854775807 < pe.size + x.size := by omega
      go_wp2_with fail
      go_region
      go_wp2_with fail
      go_ret
      exact ⟨rfl, ((HI2.out.put i hi (some (b ++ x, s)) true su (pe ++ x) rfl HS.out HP.out).alloc _).drew, below_drew1 (below_alloc' (((HB2.out.setCell HI2.out.hg _).setCell HI2.out.hg _).setCell HI2.out.hg _) _), HK6.out.trans ((((HK2.out.set _ _).set _ _).set _ _).alloc _).drew⟩
theorem readR_ways (down : Bool) (A : Nat → Ar) (n : Int) : (thereR down A n ≠ 0 ∧ readR down A n = (⟨#[]⟩, thereR down A n)) ∨ (thereR down A n = 0 ∧ ∃ (i : Nat) (b : ByteArray) (s : Nat), n = (i : Int) ∧ i < 4 ∧ A i = some (b, s) ∧ readR down A n = (b, 0)) := by
  unfold thereR readR
  cases down with
  | true => exact .inl ⟨by rw [if_pos rfl]; decide, by rw [if_pos rfl, if_pos rfl]⟩
  | false =>
    simp only [Bool.false_eq_true, if_false]
    by_cases hn : n < 0 ∨ 4 ≤ n
    · exact .inl ⟨by rw [if_pos hn]; decide, by rw [if_pos hn, if_pos hn]⟩
    · obtain ⟨i, rfl⟩ : ∃ i : Nat, n = (i : Int) := ⟨n.toNat, by omega⟩
      rw [if_neg hn, if_neg hn, Int.toNat_natCast]
      cases hA : A i with
      | none => exact .inl ⟨by decide, rfl⟩
      | some x => exact .inr ⟨rfl, i, x.1, x.2, rfl, by omega, hA, rfl⟩
theorem rread_calls (n : Int) (hI : IsR w0 w g room left down A) (hsb : Sb A) (hu : usedTo A 4 ≤ 140737488355328) (hn64 : -9223372036854775808 ≤ n ∧ n ≤ 9223372036854775807) :
    Calls Try.prog 27 #[.pointer (some ⟨g, 0, none⟩), .int .i64 n] w fun e w' => e = .returned (.tuple #[.string (readR down A n).1, .int .i64 (readR down A n).2]) ∧ Drawn0 w w' := by
  have HI := Lib.hid hI
  have HT := Lib.hid (rthere_calls n hI)
  rcases readR_ways down A n with ⟨h0, h1⟩ | ⟨h0, i, b, s, rfl, hi, hA, h1⟩
  · rw [h1]
    clear hI h1 hsb hu
    generalize thereR down A n = r at *
    go_enter Try.func27, Try.ntmps27
    go_wp2_with fail
    refine HT.out.mono ?_
    rintro e w2 ⟨rfl, rfl⟩
    go_wp2_with fail
    go_ret2
    exact ⟨rfl, Drawn0.refl _⟩
  · rw [h1]
    rw [h0] at HT
    obtain ⟨k0, k1, k2⟩ := hI.ca i hi
    rw [hA] at k0 k1 k2
    have hs := hsb i hi b s hA
    have hbz : b.size ≤ 140737488355328 := by have h1 := sz_le A i hi; rw [hA] at h1; have h2 : b.size ≤ usedTo A 4 := h1; omega
    have hsz := su_size (some (b, s)) (fun b' s' e => by cases e; exact hs)
    have hnl : ¬ 9223372036854775807 < (suR (some (b, s))).size + (peR (some (b, s))).size := by have h1 : sz (some (b, s)) = b.size := rfl; omega
    have HE := Lib.hid (su_all b s hs)
    have hi4 : (i : Int) < 4 := by omega
    clear hI h1 h0 hsb hu hsz hA
    generalize suR (some (b, s)) = su at *
    generalize peR (some (b, s)) = pe at *
    go_enter Try.func27, Try.ntmps27
    go_wp2_with fail
    refine HT.out.mono ?_
    rintro e w2 ⟨rfl, rfl⟩
    go_wp2_with fail
    go_region
    go_wp2_with fail
    go_ret2
    rw [HE.out]
    exact ⟨rfl, ⟨1, rfl⟩⟩
theorem fall_su (xs : List Int) (i : Nat) (a : Ar) (h : ∀ b s, a = some (b, s) → s ≤ b.size) : suR a ++ (peR a).extract 0 (keepN xs i (peR a).size) = suR (fallA xs i a) ∧ (⟨#[]⟩ : ByteArray) = peR (fallA xs i a) ∧ (fallA xs i a).isSome = a.isSome := by
  cases a with
  | none => 
    have e : (peR none).size = 0 := rfl
    refine ⟨?_, rfl, rfl⟩
    have hk := keepN_le xs i (peR none).size
    rw [e] at hk ⊢
    rw [show keepN xs i 0 = 0 by omega]
    rfl
  | some x =>
    obtain ⟨b, s⟩ := x
    have hs := h b s rfl
    have hp : (peR (some (b, s))).size = b.size - s := by show (b.extract s b.size).size = _; rw [ByteArray.size_extract]; omega
    have hk := keepN_le xs i (b.size - s)
    rw [hp]
    have hf : fallA xs i (some (b, s)) = some (b.extract 0 (s + keepN xs i (b.size - s)), (b.extract 0 (s + keepN xs i (b.size - s))).size) := rfl
    rw [hf]
    generalize keepN xs i (b.size - s) = kn at *
    rw [ext_sz b (s + kn) (by omega)]
    refine ⟨?_, pe_ext b (s + kn) (by omega), rfl⟩
    rw [← su_ext b (s + kn) (by omega)]
    show b.extract 0 s ++ (b.extract s b.size).extract 0 kn = _
    rw [ByteArray.extract_extract, Nat.add_zero, ByteArray.extract_append_extract]
    congr 1 <;> omega
set_option maxRecDepth 100000 in
set_option maxHeartbeats 8000000 in
theorem rfall_calls (xs : List Int) (R0 : Option Addr) (c0 : Nat) (hxl : xs.length ≤ c0) (hI : IsR w0 w g room left down A) (hB : Below w0.heap.size w0 w) (hr : ReadsInt w .i64 R0 xs.length xs) (hkf : ∀ ad, R0 = some ad → 0 < xs.length → ad.block ≠ g)
    (hsb : Sb A) (hu : usedTo A 4 ≤ 140737488355328) :
    Calls Try.prog 25 #[.pointer (some ⟨g, 0, none⟩), .slice R0 xs.length c0] w fun e w' => e = .returned (.tuple #[]) ∧ IsR w0 w' g room (-1) false (fallTo xs A 4) ∧ Below w0.heap.size w0 w' ∧ KeepG w w' g := by
  have hxs : ∀ n, n < 4 → n < xs.length → ∃ ad, R0 = some ad ∧ w.cell? (ad.add n) = some (.int .i64 (rd xs n)) ∧ ad.block ≠ g := by
    intro n _ h
    obtain ⟨ad, e, hc⟩ := hr.at_ (n : Int) (by omega) (by omega)
    exact ⟨ad, e, by simpa using hc, hkf ad e (by omega)⟩
  have HXS := Lib.hid hxs
  have HI0 := Lib.hid hI
  have HB0 := Lib.hid hB
  have HF := Lib.hid (fun i (hi : i < 4) => fall_su xs i (A i) (hsb i hi))
  have HZ := Lib.hid (fun i (hi : i < 4) => show (suR (A i)).size + (peR (A i)).size ≤ 140737488355328 by rw [su_size (A i) (hsb i hi)]; have := sz_le A i hi; omega)
  have hxl2 : xs.length ≤ 9223372036854775807 := hr.2.1
  have HXL := Lib.hid hxl
  clear hI hB hr hkf hsb hu hxs hxl
  go_enter Try.func25, Try.ntmps25
  go_wp2_with fail
  go_loopg [4] 5 (fun gk v4 wx => ∃ (i : Nat), i ≤ 4 ∧ v4 = .int .i64 (i : Int) ∧ Aside0 (i + gk = 5) ∧ Aside0 (IsR w0 wx g room left down (fallTo xs A i) ∧ Below w0.heap.size w0 wx ∧ KeepG w wx g))
  case atStart => exact ⟨0, by decide, rfl, ⟨by omega⟩, ⟨by rw [fallTo_zero]; exact HI0.out, HB0.out, KeepG.refl _ _⟩⟩
  case round =>
    obtain ⟨i, hi, rfl, ⟨hg⟩, ⟨hI, hB, hK⟩⟩ := hrel
    have HG := Lib.hid hg
    clear hg
    rcases (show i < 4 ∨ i = 4 by omega) with hlt | rfl
    · obtain ⟨k0, k1, k2⟩ := hI.ca i hlt
      rw [fallTo_at] at k0 k1 k2
      obtain ⟨e1, e2, e3⟩ := HF.out i hlt
      have hz := HZ.out i hlt
      have f0 := hI.f (3 + i * 3)
      have f1 := hI.f (3 + i * 3 + 1)
      have f2 := hI.f (3 + i * 3 + 2)
      have hgl := lt_of_at hI.hb
      have hi4 : (i : Int) < 4 := by omega
      have HI := Lib.hid hI
      have HB := Lib.hid hB
      have HK := Lib.hid hK
      have HS : Hid (fallTo xs A (i + 1) = upd (fallTo xs A i) i (fallA xs i (A i))) := Lib.hid (fallTo_succ xs A i)
      have hkl := keepN_le xs i (peR (A i)).size
      have HKN := Lib.hid (show keepN xs i (peR (A i)).size = if i < xs.length then (min (max (rd xs i) 0) (((peR (A i)).size : Nat) : Int)).toNat else 0 from rfl)
      have E1 := Lib.hid e1
      have E2 := Lib.hid e2
      have E3 := Lib.hid e3.symm
      clear hI hB hK e1 e2 e3 HZ HF
      generalize fallA xs i (A i) = fa at *
      generalize suR (A i) = su at *
      generalize peR (A i) = pe at *
      generalize (A i).isSome = isb at *
      generalize keepN xs i pe.size = kn at *
      have hx : (pe.extract 0 kn).size = kn := by rw [ByteArray.size_extract]; omega
      have hnl : ¬ 9223372036854775807 < su.size + kn := by omega
      have hkn0 : (0 : Int) ≤ (kn : Int) := by omega
      have hkn1 : (kn : Int) ≤ (pe.size : Int) := by omega
      rcases (show i < xs.length ∨ xs.length ≤ i by omega) with hln | hln
      · obtain ⟨ad, rfl, hcell, hadg⟩ := HXS.out i hlt hln
        have hcx : wr.cell? (ad.add i) = some (.int .i64 (rd xs i)) := by
          refine (cell_of_heap (a := ad.add i) (HK.out.2 _ ?_ ?_)).trans hcell
          · exact cell_lt hcell
          · unfold Addr.add; split <;> exact hadg
        rw [if_pos hln] at HKN
        obtain ⟨q, hq⟩ : ∃ q, q = rd xs i := ⟨_, rfl⟩
        rw [← hq] at HKN hcx
        have EQ := Lib.hid (show (if (pe.size : Int) < if q < 0 then 0 else q then (pe.size : Int) else if q < 0 then 0 else q) = (kn : Int) by rw [HKN.out]; by_cases hx : q < 0 <;> simp only [hx, if_true, if_false] <;> split <;> omega)
        have HX := Lib.hid hx
        clear hcell hq HKN hadg hx
        go_wp2_with fail
        go_region
        rw [EQ.out]
        generalize (if q < 0 then (0 : Int) else q) = q2
        go_wp2_with fail
        go_region
        go_wp2_with fail
        go_region
        go_wp2
        go_roundg (gk - 1)
        case measure => have := HG.out; omega
        case rel => exact ⟨i + 1, by omega, by go_num, ⟨by have := HG.out; omega⟩, ⟨by rw [HS.out]; exact ((HI.out.put i hlt fa isb _ ⟨#[]⟩ E3.out E1.out E2.out).alloc _).drew.drew.drew, below_drew1 (below_drew1 (below_drew1 (below_alloc' (((HB.out.setCell HI.out.hg _).setCell HI.out.hg _).setCell HI.out.hg _) _))), ((((HK.out.set _ _).set _ _).set _ _).alloc _).drew.drew.drew⟩⟩
      · rw [if_neg (by omega)] at HKN
        obtain rfl : kn = 0 := HKN.out
        have E1 : Hid (su = suR fa) := Lib.hid (by have h := E1.out; rw [show pe.extract 0 0 = ByteArray.empty by simp, ByteArray.append_empty] at h; exact h)
        clear HKN hkn0 hkn1 hkl
        have HX := Lib.hid hx
        clear hx
        go_wp2_with fail
        go_region
        go_wp2_with fail
        go_region
        go_wp2
        go_roundg (gk - 1)
        case measure => have := HG.out; omega
        case rel => exact ⟨i + 1, by omega, by go_num, ⟨by have := HG.out; omega⟩, ⟨by rw [HS.out]; exact ((HI.out.put i hlt fa isb _ ⟨#[]⟩ E3.out E1.out E2.out).alloc _).drew.drew, below_drew1 (below_drew1 (below_alloc' (((HB.out.setCell HI.out.hg _).setCell HI.out.hg _).setCell HI.out.hg _) _)), ((((HK.out.set _ _).set _ _).set _ _).alloc _).drew.drew⟩⟩
    · have HI := Lib.hid (hI.setDown false)
      have HI2 := Lib.hid (HI.out.setLeft (-1))
      have c1 := hI.c1
      have c2 := hI.c2
      have f1 := hI.f 1
      have f2 := hI.f 2
      have HB := Lib.hid hB
      have HK := Lib.hid hK
      clear hI hB hK
      go_wp2_with fail
      go_end0
      exact ⟨rfl, HI2.out, (HB.out.setCell HI.out.hg _).setCell HI.out.hg _, (HK.out.set _ _).set _ _⟩
end
end Go.Proofs.Ytahfcnbdladfbaa

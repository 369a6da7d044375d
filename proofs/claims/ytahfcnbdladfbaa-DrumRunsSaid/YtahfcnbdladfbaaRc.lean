/- The document's drum: Cut, Trim, Write, Sync, Read, Used, Has, Fall. Conditions: those that each theorem names. -/
import Derived.Test.YtahfcnbdladfbaaRb
set_option linter.unusedVariables false
set_option linter.unusedSimpArgs false
namespace Go.Proofs.Ytahfcnbdladfbaa
open Go.RowKit Go.Proofs.YtahfcnbdladfbaaW.PrintWords

/-- No more is sure than is there. -/
def Sb (A : Nat → Ar) : Prop := ∀ i, i < 4 → ∀ b s, A i = some (b, s) → s ≤ b.size
theorem su_size (a : Ar) (h : ∀ b s, a = some (b, s) → s ≤ b.size) : (suR a).size + (peR a).size = sz a := by
  cases a with
  | none => rfl
  | some x =>
    have := h x.1 x.2 rfl
    show (x.1.extract 0 x.2).size + (x.1.extract x.2 x.1.size).size = x.1.size
    rw [ByteArray.size_extract, ByteArray.size_extract]
    omega
theorem ext_sz (b : ByteArray) (m : Nat) (h : m ≤ b.size) : (b.extract 0 m).size = m := by rw [ByteArray.size_extract]; omega
theorem su_all (b : ByteArray) (s : Nat) (h : s ≤ b.size) : suR (some (b, s)) ++ peR (some (b, s)) = b := su_pe b s h
theorem su_ext (b : ByteArray) (m : Nat) (h : m ≤ b.size) : b.extract 0 m = suR (some (b.extract 0 m, m)) := by
  show _ = (b.extract 0 m).extract 0 m
  rw [ByteArray.extract_extract]
  congr 1
  omega
theorem pe_ext (b : ByteArray) (m : Nat) (h : m ≤ b.size) : (⟨#[]⟩ : ByteArray) = peR (some (b.extract 0 m, m)) := by
  show _ = (b.extract 0 m).extract m (b.extract 0 m).size
  have e : (b.extract 0 m).size = m := by rw [ByteArray.size_extract]; omega
  rw [e]
  have := ext_none (b.extract 0 m)
  rw [e] at this
  exact this.symm
theorem wr_su (b x : ByteArray) (s : Nat) (h : s ≤ b.size) : suR (some (b, s)) = suR (some (b ++ x, s)) := by
  apply bytes_ext
  unfold bytesOf
  simp only [suR, ByteArray.data_extract, ByteArray.data_append, Array.toList_extract, Array.toList_append]
  rw [List.extract_eq_take_drop, List.extract_eq_take_drop, List.drop_zero, List.drop_zero, Array.toList_append, List.take_append_of_le_length (by simp; exact h)]
theorem wr_pe (b x : ByteArray) (s : Nat) (h : s ≤ b.size) : peR (some (b, s)) ++ x = peR (some (b ++ x, s)) := by
  apply bytes_ext
  rw [bytesOf_append]
  unfold bytesOf
  simp only [peR, ByteArray.data_extract, ByteArray.data_append, Array.toList_extract, Array.toList_append, ByteArray.size_append]
  rw [List.extract_eq_take_drop, List.extract_eq_take_drop, Array.toList_append, List.drop_append_of_le_length (by simp; exact h), List.take_of_length_le (by simp), List.take_of_length_le (by simp; omega)]
  simp
section
variable {w0 w w1 : World} {g : Nat} {room left : Int} {down : Bool} {A : Nat → Ar}
theorem IsR.drewN (h : IsR w0 w g room left down A) (m : Nat) : IsR w0 (w.drewN m) g room left down A := h.move rfl
theorem KeepG.drewN {w W : World} {g : Nat} (h : KeepG w W g) (m : Nat) : KeepG w (W.drewN m) g := h

set_option maxRecDepth 100000 in
set_option maxHeartbeats 4000000 in
theorem rused_calls (hI : IsR w0 w g room left down A) (hsb : Sb A) (hu : usedTo A 4 ≤ 9223372036854775807) :
    Calls Try.prog 26 #[.pointer (some ⟨g, 0, none⟩)] w fun e w' => e = .returned (.int .i64 (usedTo A 4 : Int)) ∧ Drawn0 w w' := by
  have HI := Lib.hid hI
  have HZ := Lib.hid (fun i (hi : i < 4) => su_size (A i) (hsb i hi))
  have HU := Lib.hid hu
  have HLE : Hid (∀ n, n < 4 → usedTo A n + sz (A n) ≤ usedTo A 4) := Lib.hid (by
    intro n hn
    rcases (show n = 0 ∨ n = 1 ∨ n = 2 ∨ n = 3 by omega) with rfl | rfl | rfl | rfl <;> simp only [usedTo] <;> omega)
  clear hI hsb hu
  go_enter Try.func26, Try.ntmps26
  go_wp2_with fail
  go_loopg [3, 4] 5 (fun gk v3 v4 wx => ∃ (i : Nat), i ≤ 4 ∧ v3 = .int .i64 (usedTo A i : Int) ∧ v4 = .int .i64 (i : Int) ∧ Aside0 (i + gk = 5) ∧ Drawn0 w wx)
  case atStart => exact ⟨0, by decide, rfl, rfl, ⟨by omega⟩, Drawn0.refl _⟩
  case round =>
    obtain ⟨i, hi, rfl, rfl, ⟨hg⟩, ⟨m1, rfl⟩⟩ := hrel
    have HG := Lib.hid hg
    clear hg
    rcases (show i < 4 ∨ i = 4 by omega) with hlt | rfl
    · have hle := HLE.out i hlt
      have hsz := HZ.out i hlt
      have hu := HU.out
      have HS : Hid (usedTo A (i + 1) = usedTo A i + sz (A i)) := rfl
      obtain ⟨k0, k1, k2⟩ := HI.out.ca i hlt
      have HUA : Hid (usedTo A i = usedTo A i) := Lib.hid rfl
      generalize suR (A i) = su at *
      generalize peR (A i) = pe at *
      have hw1 : IntKind.i64.wrap ((usedTo A i : Int) + (su.size : Int)) = ((usedTo A i + su.size : Nat) : Int) := by rw [IntKind.wrap_i64]; omega
      have hw2 : IntKind.i64.wrap (((usedTo A i + su.size : Nat) : Int) + (pe.size : Int)) = ((usedTo A (i + 1) : Nat) : Int) := by rw [IntKind.wrap_i64, HS.out]; omega
      have hw1' : (usedTo A i : Int) + (su.size : Int) = ((usedTo A i + su.size : Nat) : Int) := by omega
      have hw2' : ((usedTo A i + su.size : Nat) : Int) + (pe.size : Int) = ((usedTo A (i + 1) : Nat) : Int) := by rw [HS.out]; omega
      have hw3 : IntKind.i64.wrap ((usedTo A i + su.size : Nat) : Int) = ((usedTo A i + su.size : Nat) : Int) := by rw [IntKind.wrap_i64]; omega
      have hw4 : IntKind.i64.wrap ((usedTo A (i + 1) : Nat) : Int) = ((usedTo A (i + 1) : Nat) : Int) := by rw [IntKind.wrap_i64, HS.out]; omega
      clear hle hsz hu HLE HZ HS HUA
      generalize usedTo A i = s0 at *
      obtain ⟨s1, hs1⟩ : ∃ s1, s1 = usedTo A (i + 1) := ⟨_, rfl⟩
      rw [← hs1] at hw2 hw2' hw4
      have HS1 := Lib.hid hs1
      clear hs1
      generalize s0 + su.size = s2 at *
      go_wp2_with fail
      go_region
      go_wp2_with fail
      go_roundg (gk - 1)
      case measure => have := HG.out; omega
      case rel => exact ⟨i + 1, by omega, by rw [HS1.out], by go_num, ⟨by have := HG.out; omega⟩, by first | exact ⟨m1 + 1, rfl⟩ | exact ⟨m1, rfl⟩⟩
    · go_wp2_with fail
      go_ret
      exact ⟨rfl, ⟨m1, rfl⟩⟩

theorem rhas_calls (n : Int) (hI : IsR w0 w g room left down A) : Calls Try.prog 28 #[.pointer (some ⟨g, 0, none⟩), .int .i64 n] w fun e w' => e = .returned (.bool (hasR A n)) ∧ w' = w := by
  rcases (show n < 0 ∨ (0 ≤ n ∧ 4 ≤ n) ∨ (0 ≤ n ∧ n < 4) by omega) with hn | ⟨hn0, hn⟩ | ⟨hn0, hn4⟩
  · have HR : Hid (hasR A n = false) := Lib.hid (if_pos (.inl hn))
    clear hI
    go_enter Try.func28, Try.ntmps28
    go_wp2_with fail
    go_ret
    exact ⟨by rw [HR.out]; rfl, rfl⟩
  · have HR : Hid (hasR A n = false) := Lib.hid (if_pos (.inr hn))
    clear hI
    go_enter Try.func28, Try.ntmps28
    go_wp2_with fail
    go_ret
    exact ⟨by rw [HR.out]; rfl, rfl⟩
  · obtain ⟨i, rfl⟩ : ∃ i : Nat, n = (i : Int) := ⟨n.toNat, by omega⟩
    have hi : i < 4 := by omega
    have HR0 : Hid (hasR A (i : Int) = (A i).isSome) := Lib.hid (by unfold hasR; rw [if_neg (by omega), Int.toNat_natCast])
    have k0 := (hI.ca i hi).1
    clear hn0 hI
    generalize (A i).isSome = b at *
    go_enter Try.func28, Try.ntmps28
    go_wp2_with fail
    go_ret
    exact ⟨by rw [HR0.out]; rfl, rfl⟩

set_option maxRecDepth 100000 in
set_option maxHeartbeats 4000000 in
theorem rcut_calls (n : Int)  (hI : IsR w0 w g room left down A) (hB : Below w0.heap.size w0 w) (hl : -1 ≤ left ∧ left ≤ 9223372036854775807) (hn64 : -9223372036854775808 ≤ n ∧ n ≤ 9223372036854775807) (hsb : Sb A) (hu : usedTo A 4 ≤ 140737488355328)  :
    Calls Try.prog 21 #[.pointer (some ⟨g, 0, none⟩), .int .i64 n] w fun e w' => e = .returned (.int .i64 (stepR left down A n thereRef cutAct).1) ∧ AtR w0 w w' g room (stepR left down A n thereRef cutAct) := by
  have HI := Lib.hid hI
  have HB := Lib.hid hB
  have HSB := Lib.hid hsb
  clear hI hB hsb
  rcases stepR_ways left down A n thereRef cutAct with ⟨rfl, hr⟩ | ⟨rfl, hn, hr⟩ | ⟨rfl, i, rfl, hi, ha, hr⟩ | ⟨rfl, i, rfl, hi, ha, rfl, hr⟩ | ⟨rfl, i, rfl, hi, ha, hl0, hr⟩
  · rw [hr]
    clear hr
    go_enter Try.func21, Try.ntmps21
    go_wp2_with fail
    refine (rthere_calls n HI.out).mono ?_
    rintro e w2 ⟨rfl, rfl⟩
    rw [show thereR true A n = 11 from rfl]
    go_wp2_with fail
    go_ret
    exact ⟨rfl, HI.out, HB.out, KeepG.refl _ _⟩
  · rw [hr]
    have ht : thereR false A n = 1 := by unfold thereR; rw [if_neg (by decide), if_pos (by omega)]
    have HT := Lib.hid ht
    clear hr ht hn
    go_enter Try.func21, Try.ntmps21
    go_wp2_with fail
    refine (rthere_calls n HI.out).mono ?_
    rintro e w2 ⟨rfl, rfl⟩
    rw [HT.out]
    go_wp2_with fail
    go_ret
    exact ⟨rfl, HI.out, HB.out, KeepG.refl _ _⟩
  · rw [hr]
    have hA : A i = none := by
      cases hA : A i with
      | none => rfl
      | some x => rw [hA] at ha; exact absurd rfl ha
    have HT := Lib.hid (show thereR false A (i : Int) = 12 by unfold thereR; rw [if_neg (by decide), if_neg (by omega), Int.toNat_natCast, hA]; rfl)
    rw [hA]
    clear hr hA ha
    go_enter Try.func21, Try.ntmps21
    go_wp2_with fail
    refine (rthere_calls (i : Int) HI.out).mono ?_
    rintro e w2 ⟨rfl, rfl⟩
    rw [HT.out]
    go_wp2_with fail
    go_ret
    exact ⟨rfl, HI.out, HB.out, KeepG.refl _ _⟩
  · rw [hr]
    cases hA : A i with
    | none => rw [hA] at ha; cases ha
    | some x =>
      obtain ⟨b, s⟩ := x
      have hs := HSB.out i hi b s hA
      have hbz : b.size ≤ 140737488355328 := by have h1 := sz_le A i hi; rw [hA] at h1; have h2 : b.size ≤ usedTo A 4 := h1; omega
      have HT := Lib.hid (show thereR false A (i : Int) = 0 by unfold thereR; rw [if_neg (by decide), if_neg (by omega), Int.toNat_natCast, hA]; rfl)

      clear hr hA
      go_enter Try.func21, Try.ntmps21
      go_wp2_with fail
      refine (rthere_calls (i : Int) HI.out).mono ?_
      rintro e w2 ⟨rfl, rfl⟩
      rw [HT.out]
      go_wp2_with fail
      refine (burn_calls (HI.out) (HB.out) hl).mono ?_
      rintro e w2 ⟨hB, hK, ⟨_, rfl, hI⟩ | ⟨hx, _⟩⟩
      · have HI2 := Lib.hid hI
        have HB2 := Lib.hid hB
        have HK2 := Lib.hid hK
        clear hI hB hK
        go_wp2_with fail
        go_ret
        exact ⟨rfl, HI2.out, HB2.out, HK2.out⟩
      · exact absurd rfl hx
  · rw [hr]
    cases hA : A i with
    | none => rw [hA] at ha; cases ha
    | some x =>
      obtain ⟨b, s⟩ := x
      have hs := HSB.out i hi b s hA
      have hbz : b.size ≤ 140737488355328 := by have h1 := sz_le A i hi; rw [hA] at h1; have h2 : b.size ≤ usedTo A 4 := h1; omega
      have HT := Lib.hid (show thereR false A (i : Int) = 0 by unfold thereR; rw [if_neg (by decide), if_neg (by omega), Int.toNat_natCast, hA]; rfl)

      have HL0 := Lib.hid hl0
      have HA := Lib.hid hA
      clear hr hA hl0
      go_enter Try.func21, Try.ntmps21
      go_wp2_with fail
      refine (rthere_calls (i : Int) HI.out).mono ?_
      rintro e w2 ⟨rfl, rfl⟩
      rw [HT.out]
      go_wp2_with fail
      refine (burn_calls (HI.out) (HB.out) hl).mono ?_
      rintro e w2 ⟨hB, hK, ⟨hx, _⟩ | ⟨_, rfl, hI⟩⟩
      · exact absurd hx HL0.out
      · obtain ⟨k0, k1, k2⟩ := hI.ca i hi
        rw [HA.out] at k0 k1 k2
        have f0 := hI.f (3 + i * 3)
        have f1 := hI.f (3 + i * 3 + 1)
        have f2 := hI.f (3 + i * 3 + 2)
        have hgl := lt_of_at hI.hb
        have hi4 : (i : Int) < 4 := by omega
        have HI2 := Lib.hid hI
        have HB2 := Lib.hid hB
        have HK2 := Lib.hid hK
        clear hI hB hK
        clear HT
        go_wp2_with fail
        go_ret
        exact ⟨rfl, HI2.out.put i hi none false ⟨#[]⟩ ⟨#[]⟩ rfl rfl rfl, ((HB2.out.setCell HI2.out.hg _).setCell HI2.out.hg _).setCell HI2.out.hg _, ((HK2.out.set _ _).set _ _).set _ _⟩
set_option maxRecDepth 100000 in
set_option maxHeartbeats 4000000 in
theorem rsync_calls (n : Int)  (hI : IsR w0 w g room left down A) (hB : Below w0.heap.size w0 w) (hl : -1 ≤ left ∧ left ≤ 9223372036854775807) (hn64 : -9223372036854775808 ≤ n ∧ n ≤ 9223372036854775807) (hsb : Sb A) (hu : usedTo A 4 ≤ 140737488355328)  :
    Calls Try.prog 24 #[.pointer (some ⟨g, 0, none⟩), .int .i64 n] w fun e w' => e = .returned (.int .i64 (stepR left down A n thereRef syncAct).1) ∧ AtR w0 w w' g room (stepR left down A n thereRef syncAct) := by
  have HI := Lib.hid hI
  have HB := Lib.hid hB
  have HSB := Lib.hid hsb
  clear hI hB hsb
  rcases stepR_ways left down A n thereRef syncAct with ⟨rfl, hr⟩ | ⟨rfl, hn, hr⟩ | ⟨rfl, i, rfl, hi, ha, hr⟩ | ⟨rfl, i, rfl, hi, ha, rfl, hr⟩ | ⟨rfl, i, rfl, hi, ha, hl0, hr⟩
  · rw [hr]
    clear hr
    go_enter Try.func24, Try.ntmps24
    go_wp2_with fail
    refine (rthere_calls n HI.out).mono ?_
    rintro e w2 ⟨rfl, rfl⟩
    rw [show thereR true A n = 11 from rfl]
    go_wp2_with fail
    go_ret
    exact ⟨rfl, HI.out, HB.out, KeepG.refl _ _⟩
  · rw [hr]
    have ht : thereR false A n = 1 := by unfold thereR; rw [if_neg (by decide), if_pos (by omega)]
    have HT := Lib.hid ht
    clear hr ht hn
    go_enter Try.func24, Try.ntmps24
    go_wp2_with fail
    refine (rthere_calls n HI.out).mono ?_
    rintro e w2 ⟨rfl, rfl⟩
    rw [HT.out]
    go_wp2_with fail
    go_ret
    exact ⟨rfl, HI.out, HB.out, KeepG.refl _ _⟩
  · rw [hr]
    have hA : A i = none := by
      cases hA : A i with
      | none => rfl
      | some x => rw [hA] at ha; exact absurd rfl ha
    have HT := Lib.hid (show thereR false A (i : Int) = 12 by unfold thereR; rw [if_neg (by decide), if_neg (by omega), Int.toNat_natCast, hA]; rfl)
    rw [hA]
    clear hr hA ha
    go_enter Try.func24, Try.ntmps24
    go_wp2_with fail
    refine (rthere_calls (i : Int) HI.out).mono ?_
    rintro e w2 ⟨rfl, rfl⟩
    rw [HT.out]
    go_wp2_with fail
    go_ret
    exact ⟨rfl, HI.out, HB.out, KeepG.refl _ _⟩
  · rw [hr]
    cases hA : A i with
    | none => rw [hA] at ha; cases ha
    | some x =>
      obtain ⟨b, s⟩ := x
      have hs := HSB.out i hi b s hA
      have hbz : b.size ≤ 140737488355328 := by have h1 := sz_le A i hi; rw [hA] at h1; have h2 : b.size ≤ usedTo A 4 := h1; omega
      have HT := Lib.hid (show thereR false A (i : Int) = 0 by unfold thereR; rw [if_neg (by decide), if_neg (by omega), Int.toNat_natCast, hA]; rfl)

      clear hr hA
      go_enter Try.func24, Try.ntmps24
      go_wp2_with fail
      refine (rthere_calls (i : Int) HI.out).mono ?_
      rintro e w2 ⟨rfl, rfl⟩
      rw [HT.out]
      go_wp2_with fail
      refine (burn_calls (HI.out) (HB.out) hl).mono ?_
      rintro e w2 ⟨hB, hK, ⟨_, rfl, hI⟩ | ⟨hx, _⟩⟩
      · have HI2 := Lib.hid hI
        have HB2 := Lib.hid hB
        have HK2 := Lib.hid hK
        clear hI hB hK
        go_wp2_with fail
        go_ret
        exact ⟨rfl, HI2.out, HB2.out, HK2.out⟩
      · exact absurd rfl hx
  · rw [hr]
    cases hA : A i with
    | none => rw [hA] at ha; cases ha
    | some x =>
      obtain ⟨b, s⟩ := x
      have hs := HSB.out i hi b s hA
      have hbz : b.size ≤ 140737488355328 := by have h1 := sz_le A i hi; rw [hA] at h1; have h2 : b.size ≤ usedTo A 4 := h1; omega
      have HT := Lib.hid (show thereR false A (i : Int) = 0 by unfold thereR; rw [if_neg (by decide), if_neg (by omega), Int.toNat_natCast, hA]; rfl)

      have HL0 := Lib.hid hl0
      have HA := Lib.hid hA
      clear hr hA hl0
      go_enter Try.func24, Try.ntmps24
      go_wp2_with fail
      refine (rthere_calls (i : Int) HI.out).mono ?_
      rintro e w2 ⟨rfl, rfl⟩
      rw [HT.out]
      go_wp2_with fail
      refine (burn_calls (HI.out) (HB.out) hl).mono ?_
      rintro e w2 ⟨hB, hK, ⟨hx, _⟩ | ⟨_, rfl, hI⟩⟩
      · exact absurd hx HL0.out
      · obtain ⟨k0, k1, k2⟩ := hI.ca i hi
        rw [HA.out] at k0 k1 k2
        have f0 := hI.f (3 + i * 3)
        have f1 := hI.f (3 + i * 3 + 1)
        have f2 := hI.f (3 + i * 3 + 2)
        have hgl := lt_of_at hI.hb
        have hi4 : (i : Int) < 4 := by omega
        have HI2 := Lib.hid hI
        have HB2 := Lib.hid hB
        have HK2 := Lib.hid hK
        clear hI hB hK
        have HE := Lib.hid (su_all b s hs)
        have hsz := su_size (some (b, s)) (fun b' s' e => by cases e; exact hs)
        have HS := Lib.hid hsz
        have hnl : ¬ 9223372036854775807 < (suR (some (b, s))).size + (peR (some (b, s))).size := by have h1 : sz (some (b, s)) = b.size := rfl; omega
        clear HT hsz
        generalize suR (some (b, s)) = su at *
        generalize peR (some (b, s)) = pe at *
        go_wp2_with fail
        go_region
        go_wp2_with fail
        go_ret
        rw [HE.out]
        exact ⟨rfl, ((HI2.out.put i hi (some (b, b.size)) true b ⟨#[]⟩ rfl (ext_self b).symm (ext_none b).symm).alloc _).drew, below_drew1 (below_alloc' (((HB2.out.setCell HI2.out.hg _).setCell HI2.out.hg _).setCell HI2.out.hg _) _), ((((HK2.out.set _ _).set _ _).set _ _).alloc _).drew⟩
set_option maxRecDepth 100000 in
set_option maxHeartbeats 4000000 in
theorem rtrim_calls (n : Int) (size : Int) (hI : IsR w0 w g room left down A) (hB : Below w0.heap.size w0 w) (hl : -1 ≤ left ∧ left ≤ 9223372036854775807) (hn64 : -9223372036854775808 ≤ n ∧ n ≤ 9223372036854775807) (hsb : Sb A) (hu : usedTo A 4 ≤ 140737488355328) (hsz64 : size ≤ 9223372036854775807) :
    Calls Try.prog 22 #[.pointer (some ⟨g, 0, none⟩), .int .i64 n, .int .i64 size] w fun e w' => e = .returned (.int .i64 (stepR left down A n (trimRef size) (trimAct size)).1) ∧ AtR w0 w w' g room (stepR left down A n (trimRef size) (trimAct size)) := by
  have HI := Lib.hid hI
  have HB := Lib.hid hB
  have HSB := Lib.hid hsb
  clear hI hB hsb
  rcases stepR_ways left down A n (trimRef size) (trimAct size) with ⟨rfl, hr⟩ | ⟨rfl, hn, hr⟩ | ⟨rfl, i, rfl, hi, ha, hr⟩ | ⟨rfl, i, rfl, hi, ha, rfl, hr⟩ | ⟨rfl, i, rfl, hi, ha, hl0, hr⟩
  · rw [hr]
    clear hr
    go_enter Try.func22, Try.ntmps22
    go_wp2_with fail
    refine (rthere_calls n HI.out).mono ?_
    rintro e w2 ⟨rfl, rfl⟩
    rw [show thereR true A n = 11 from rfl]
    go_wp2_with fail
    go_ret
    exact ⟨rfl, HI.out, HB.out, KeepG.refl _ _⟩
  · rw [hr]
    have ht : thereR false A n = 1 := by unfold thereR; rw [if_neg (by decide), if_pos (by omega)]
    have HT := Lib.hid ht
    clear hr ht hn
    go_enter Try.func22, Try.ntmps22
    go_wp2_with fail
    refine (rthere_calls n HI.out).mono ?_
    rintro e w2 ⟨rfl, rfl⟩
    rw [HT.out]
    go_wp2_with fail
    go_ret
    exact ⟨rfl, HI.out, HB.out, KeepG.refl _ _⟩
  · rw [hr]
    cases hA : A i with
    | some x =>
      rw [hA] at ha
      have hsz0 : size < 0 := by
        by_cases h : 0 ≤ size
        · exact absurd (show trimRef size (some x) = 0 from if_pos h) ha
        · omega
      have hr1 : trimRef size (some x) = 1 := by
        show (if 0 ≤ size then (0 : Int) else 1) = 1
        exact if_neg (by omega)
      have HT := Lib.hid (show thereR false A (i : Int) = 0 by unfold thereR; rw [if_neg (by decide), if_neg (by omega), Int.toNat_natCast, hA]; rfl)
      rw [hr1]
      clear hr hA ha hr1
      go_enter Try.func22, Try.ntmps22
      go_wp2_with fail
      refine (rthere_calls (i : Int) HI.out).mono ?_
      rintro e w2 ⟨rfl, rfl⟩
      rw [HT.out]
      go_wp2_with fail
      go_ret
      exact ⟨rfl, HI.out, HB.out, KeepG.refl _ _⟩
    | none =>
      have HT := Lib.hid (show thereR false A (i : Int) = 12 by unfold thereR; rw [if_neg (by decide), if_neg (by omega), Int.toNat_natCast, hA]; rfl)
      clear hr hA ha
      go_enter Try.func22, Try.ntmps22
      go_wp2_with fail
      refine (rthere_calls (i : Int) HI.out).mono ?_
      rintro e w2 ⟨rfl, rfl⟩
      rw [HT.out]
      go_wp2_with fail
      go_ret
      exact ⟨rfl, HI.out, HB.out, KeepG.refl _ _⟩
  · rw [hr]
    cases hA : A i with
    | none => rw [hA] at ha; cases ha
    | some x =>
      obtain ⟨b, s⟩ := x
      have hs := HSB.out i hi b s hA
      have hbz : b.size ≤ 140737488355328 := by have h1 := sz_le A i hi; rw [hA] at h1; have h2 : b.size ≤ usedTo A 4 := h1; omega
      have HT := Lib.hid (show thereR false A (i : Int) = 0 by unfold thereR; rw [if_neg (by decide), if_neg (by omega), Int.toNat_natCast, hA]; rfl)
      have hsz0 : 0 ≤ size := by
        by_cases h : 0 ≤ size
        · exact h
        · rw [hA] at ha
          have ha2 : (if 0 ≤ size then (0 : Int) else 1) = 0 := ha
          rw [if_neg h] at ha2
          cases ha2
      clear hr hA
      go_enter Try.func22, Try.ntmps22
      go_wp2_with fail
      refine (rthere_calls (i : Int) HI.out).mono ?_
      rintro e w2 ⟨rfl, rfl⟩
      rw [HT.out]
      go_wp2_with fail
      refine (burn_calls (HI.out) (HB.out) hl).mono ?_
      rintro e w2 ⟨hB, hK, ⟨_, rfl, hI⟩ | ⟨hx, _⟩⟩
      · have HI2 := Lib.hid hI
        have HB2 := Lib.hid hB
        have HK2 := Lib.hid hK
        clear hI hB hK
        go_wp2_with fail
        go_ret
        exact ⟨rfl, HI2.out, HB2.out, HK2.out⟩
      · exact absurd rfl hx
  · rw [hr]
    cases hA : A i with
    | none => rw [hA] at ha; cases ha
    | some x =>
      obtain ⟨b, s⟩ := x
      have hs := HSB.out i hi b s hA
      have hbz : b.size ≤ 140737488355328 := by have h1 := sz_le A i hi; rw [hA] at h1; have h2 : b.size ≤ usedTo A 4 := h1; omega
      have HT := Lib.hid (show thereR false A (i : Int) = 0 by unfold thereR; rw [if_neg (by decide), if_neg (by omega), Int.toNat_natCast, hA]; rfl)
      have hsz0 : 0 ≤ size := by
        by_cases h : 0 ≤ size
        · exact h
        · rw [hA] at ha
          have ha2 : (if 0 ≤ size then (0 : Int) else 1) = 0 := ha
          rw [if_neg h] at ha2
          cases ha2
      have HL0 := Lib.hid hl0
      have HA := Lib.hid hA
      clear hr hA hl0
      go_enter Try.func22, Try.ntmps22
      go_wp2_with fail
      refine (rthere_calls (i : Int) HI.out).mono ?_
      rintro e w2 ⟨rfl, rfl⟩
      rw [HT.out]
      go_wp2_with fail
      refine (burn_calls (HI.out) (HB.out) hl).mono ?_
      rintro e w2 ⟨hB, hK, ⟨hx, _⟩ | ⟨_, rfl, hI⟩⟩
      · exact absurd hx HL0.out
      · obtain ⟨k0, k1, k2⟩ := hI.ca i hi
        rw [HA.out] at k0 k1 k2
        have f0 := hI.f (3 + i * 3)
        have f1 := hI.f (3 + i * 3 + 1)
        have f2 := hI.f (3 + i * 3 + 2)
        have hgl := lt_of_at hI.hb
        have hi4 : (i : Int) < 4 := by omega
        have HI2 := Lib.hid hI
        have HB2 := Lib.hid hB
        have HK2 := Lib.hid hK
        clear hI hB hK
        have HE := Lib.hid (su_all b s hs)
        have hsz := su_size (some (b, s)) (fun b' s' e => by cases e; exact hs)
        have hnl : ¬ 9223372036854775807 < (suR (some (b, s))).size + (peR (some (b, s))).size := by have h1 : sz (some (b, s)) = b.size := rfl; omega
        clear HT hsz
        obtain ⟨m, hm⟩ : ∃ m, m = (min size (b.size : Int)).toNat := ⟨_, rfl⟩
        have hmb : m ≤ b.size := by omega
        have HX := Lib.hid (show trimAct size (some (b, s)) = some (b.extract 0 m, m) by
          unfold trimAct
          simp only [Option.map]
          rw [← hm, ext_sz b m hmb])
        have hways : (size = (m : Int) ∧ m ≤ b.size) ∨ ((b.size : Int) < size ∧ m = b.size) := by omega
        clear hm
        generalize suR (some (b, s)) = su at *
        generalize peR (some (b, s)) = pe at *
        go_wp2_with fail
        go_region
        rw [HE.out]
        clear hnl HE
        rcases hways with ⟨rfl, hle⟩ | ⟨hlt, rfl⟩
        · go_wp2_with fail
          go_region
          go_wp2_with fail
          go_ret
          exact ⟨rfl, (by
            have h := HI2.out.drew.drew.put i hi (some (b.extract 0 m, m)) true _ ⟨#[]⟩ rfl (su_ext b m hmb) (pe_ext b m hmb)
            rw [← HX.out] at h
            exact h), ((((below_drew1 (below_drew1 HB2.out))).setCell HI2.out.hg _).setCell HI2.out.hg _).setCell HI2.out.hg _, ((((HK2.out.drew).drew).set _ _).set _ _).set _ _⟩
        · go_wp2_with fail
          go_region
          go_wp2_with fail
          go_ret
          exact ⟨rfl, (by
            have h := HI2.out.drew.drew.put i hi (some (b.extract 0 b.size, b.size)) true b ⟨#[]⟩ rfl ((ext_self b).symm.trans (su_ext b b.size hmb)) (pe_ext b b.size hmb)
            rw [← HX.out] at h
            exact h), ((((below_drew1 (below_drew1 HB2.out))).setCell HI2.out.hg _).setCell HI2.out.hg _).setCell HI2.out.hg _, ((((HK2.out.drew).drew).set _ _).set _ _).set _ _⟩
end
end Go.Proofs.Ytahfcnbdladfbaa

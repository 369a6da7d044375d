/- An act, done. Conditions: those that each theorem names. -/
import Derived.Test.YtahfcnbdladfbaaDh
import Derived.Test.YtahfcnbdladfbaaOa
import Derived.Test.YtahfcnbdladfbaaAq
set_option linter.unusedVariables false
set_option linter.unusedSimpArgs false
namespace Go.Proofs.Ytahfcnbdladfbaa
open Go.RowKit Go.Proofs.YtahfcnbdladfbaaW.PrintWords

/-- A drum behind an act: the act's answer, its fuel, whether it is down, its areas. -/
def doR (room left : Int) (down : Bool) (A : Nat → Ar) (a : S36) : Int × Int × Bool × (Nat → Ar) :=
  if a.f0 = 0 then stepR left down A a.f1 layRef layAct
  else if a.f0 = 1 then stepR left down A a.f1 thereRef cutAct
  else if a.f0 = 2 then stepR left down A a.f1 (trimRef a.f2) (trimAct a.f2)
  else if a.f0 = 3 then stepR left down A a.f1 (writeRef (usedTo A 4) a.f3.size room) (writeAct a.f3)
  else if a.f0 = 4 then stepR left down A a.f1 thereRef syncAct
  else if a.f0 = 5 then (0, max a.f2 (-1), down, A)
  else if a.f0 = 6 then (0, -1, false, fallTo a.f4 A 4)
  else (0, left, down, A)
section
variable {X : Nat → Obj → Prop} {w0 w : World} {g : Nat} {room left : Int} {down : Bool} {A : Nat → Ar} {K : Nat → Nat} {V : Nat → Value}
/-- What holds of a drum's areas all along. -/
structure Fit (room left : Int) (A : Nat → Ar) : Prop where
  sb : ∀ i, i < 4 → ∀ b s, A i = some (b, s) → s ≤ b.size
  used : ((usedTo A 4 : Nat) : Int) ≤ room
  left : -1 ≤ left ∧ left ≤ 9223372036854775807
theorem used_upd (A : Nat → Ar) (n : Nat) (hn : n < 4) (x : Ar) : usedTo (upd A n x) 4 + sz (A n) = usedTo A 4 + sz x := by
  rcases (show n = 0 ∨ n = 1 ∨ n = 2 ∨ n = 3 by omega) with rfl | rfl | rfl | rfl <;> simp [usedTo, upd] <;> omega
theorem Fit.step (h : Fit room left A) (n : Int) (refuse : Ar → Int) (act : Ar → Ar)
    (h1 : ∀ i, i < 4 → refuse (A i) = 0 → ∀ b s, act (A i) = some (b, s) → s ≤ b.size)
    (h2 : ∀ i, i < 4 → refuse (A i) = 0 → ((usedTo A 4 + sz (act (A i)) : Nat) : Int) ≤ room + sz (A i)) :
    Fit room (stepR left down A n refuse act).2.1 (stepR left down A n refuse act).2.2.2 := by
  have hl := h.left
  unfold stepR
  split
  · exact h
  · split
    · exact h
    · rename_i hn
      split
      · exact h
      · rename_i hr
        split
        · exact h
        · have hi : n.toNat < 4 := by omega
          have hr0 : refuse (A n.toNat) = 0 := by omega
          show Fit room (max (left - 1) (-1)) (upd A n.toNat (act (A n.toNat)))
          refine ⟨?_, ?_, by omega⟩
          · intro i hi' b s e
            by_cases en : i = n.toNat
            · subst en; rw [upd_at] at e; exact h1 _ hi hr0 b s e
            · rw [upd_ne _ _ en] at e; exact h.sb i hi' b s e
          · have := used_upd A n.toNat hi (act (A n.toNat))
            have := h2 _ hi hr0
            show ((usedTo (upd A n.toNat (act (A n.toNat))) 4 : Nat) : Int) ≤ room
            omega
theorem sz_fallA (xs : List Int) (i : Nat) (a : Ar) (h : ∀ b s, a = some (b, s) → s ≤ b.size) : sz (fallA xs i a) ≤ sz a := by
  cases a with
  | none => exact Nat.le_refl _
  | some x =>
    show (x.1.extract 0 _).size ≤ x.1.size
    rw [ByteArray.size_extract]
    omega
theorem Fit.fall (h : Fit room left A) (xs : List Int) : Fit room (-1) (fallTo xs A 4) := by
  have e : ∀ i, i < 4 → fallTo xs A 4 i = fallA xs i (A i) := fun i hi => if_pos hi
  refine ⟨?_, ?_, by decide⟩
  · intro i hi b s hb
    rw [e i hi] at hb
    cases hA : A i with
    | none => rw [hA] at hb; cases hb
    | some x =>
      rw [hA] at hb
      injection hb with hb
      injection hb with h1 h2
      subst h1 h2
      exact Nat.le_refl _
  · have hs : ∀ i, i < 4 → sz (fallTo xs A 4 i) ≤ sz (A i) := fun i hi => by rw [e i hi]; exact sz_fallA xs i _ (h.sb i hi)
    have := h.used
    have := hs 0 (by decide)
    have := hs 1 (by decide)
    have := hs 2 (by decide)
    have := hs 3 (by decide)
    simp only [usedTo] at *
    omega
theorem Fit.act (h : Fit room left A) (a : S36) (hn : -9223372036854775808 ≤ a.f2 ∧ a.f2 ≤ 9223372036854775807) : Fit room (doR room left down A a).2.1 (doR room left down A a).2.2.2 := by
  have hl := h.left
  have hu := h.used
  unfold doR
  split
  · refine h.step _ _ _ ?_ ?_
    · intro i hi _ b s e; injection e with e; injection e with e1 e2; subst e1 e2; exact Nat.zero_le _
    · intro i hi hr
      show ((usedTo A 4 + 0 : Nat) : Int) ≤ _
      omega
  split
  · refine h.step _ _ _ ?_ ?_
    · intro i hi _ b s e; cases e
    · intro i hi hr
      show ((usedTo A 4 + 0 : Nat) : Int) ≤ _
      omega
  split
  · refine h.step _ _ _ ?_ ?_
    · intro i hi _ b s e
      cases hA : A i with
      | none => rw [hA] at e; cases e
      | some x => rw [hA] at e; injection e with e; injection e with e1 e2; subst e1 e2; exact Nat.le_refl _
    · intro i hi hr
      have : sz (trimAct a.f2 (A i)) ≤ sz (A i) := by
        cases A i with
        | none => exact Nat.le_refl _
        | some x =>
          show (x.1.extract 0 _).size ≤ x.1.size
          rw [ByteArray.size_extract]
          omega
      omega
  split
  · refine h.step _ _ _ ?_ ?_
    · intro i hi _ b s e
      cases hA : A i with
      | none => rw [hA] at e; cases e
      | some x =>
        rw [hA] at e
        injection e with e
        injection e with e1 e2
        have := h.sb i hi x.1 x.2 hA
        have : b.size = x.1.size + a.f3.size := by rw [← e1, ByteArray.size_append]
        omega
    · intro i hi hr
      cases hA : A i with
      | none => rw [hA] at hr; cases hr
      | some x =>
        rw [hA] at hr
        have hr2 : (if ((usedTo A 4 + a.f3.size : Nat) : Int) ≤ room then (0 : Int) else 10) = 0 := hr
        have hc : ((usedTo A 4 + a.f3.size : Nat) : Int) ≤ room := by
          by_cases hc : ((usedTo A 4 + a.f3.size : Nat) : Int) ≤ room
          · exact hc
          · rw [if_neg hc] at hr2; cases hr2
        show ((usedTo A 4 + (x.1 ++ a.f3).size : Nat) : Int) ≤ room + (x.1.size : Nat)
        rw [ByteArray.size_append]
        omega
  split
  · refine h.step _ _ _ ?_ ?_
    · intro i hi _ b s e
      cases hA : A i with
      | none => rw [hA] at e; cases e
      | some x => rw [hA] at e; injection e with e; injection e with e1 e2; subst e1 e2; exact Nat.le_refl _
    · intro i hi hr
      have : sz (syncAct (A i)) = sz (A i) := by cases A i <;> rfl
      omega
  split
  · show Fit room (max a.f2 (-1)) A
    exact ⟨h.sb, hu, by omega⟩
  split
  · exact h.fall _
  · exact h
set_option maxRecDepth 100000 in
set_option maxHeartbeats 4000000 in
theorem do_calls (a : S36) (R : Option Addr) (c : Nat) (hI : IsD X w0 w g room left down A K V) (hB : Below w0.heap.size w0 w) (hF : Fit room left A) (hrm : room ≤ 140737488355328) (hx : a.f3.size ≤ 140737488355328)
    (h1 : -9223372036854775808 ≤ a.f1 ∧ a.f1 ≤ 9223372036854775807) (hk : a.f4.length ≤ c) (hr : ReadsInt w .i64 R a.f4.length a.f4) (hf : ∀ ad, R = some ad → 0 < a.f4.length → ad.block < w0.heap.size) :
    Calls Try.prog 16 #[.pointer (some ⟨g, 0, none⟩), .agg #[.int .i64 a.f0, .int .i64 a.f1, .int .i64 a.f2, .string a.f3, .slice R a.f4.length c]] w fun e w' => e = .returned (.int .i64 (doR room left down A a).1) ∧ AtD X w0 w' g room (doR room left down A a) := by
  have hl := hF.left
  have hu := hF.used
  have HBZ := Lib.hid (fun i (hi : i < 4) b s (e : A i = some (b, s)) => show b.size ≤ 9223372036854775807 by have := sz_le A i hi; rw [e] at this; have h3 : b.size ≤ usedTo A 4 := this; omega)
  have HSB := Lib.hid hF.sb
  have HKF := Lib.hid (fun ad (e : R = some ad) h0 i (hi : i < 4) (hs : (A i).isSome = true) => show ad.block ≠ K i by
    obtain ⟨⟨b, s⟩, e2⟩ := Option.isSome_iff_exists.1 hs
    have h2 := (hI.ha i hi b s e2).2.1
    have h3 := hf ad e h0
    omega)
  have HI := Lib.hid hI
  have HB := Lib.hid hB
  have HR := Lib.hid hr
  clear hI hB hr hf hF
  obtain ⟨f0, f1, f2, f3, f4⟩ := a
  dsimp only at *
  rcases (show f0 = 0 ∨ f0 = 1 ∨ f0 = 2 ∨ f0 = 3 ∨ f0 = 4 ∨ f0 = 5 ∨ f0 = 6 ∨ (f0 ≠ 0 ∧ f0 ≠ 1 ∧ f0 ≠ 2 ∧ f0 ≠ 3 ∧ f0 ≠ 4 ∧ f0 ≠ 5 ∧ f0 ≠ 6) by omega) with rfl | rfl | rfl | rfl | rfl | rfl | rfl | ⟨n0, n1, n2, n3, n4, n5, n6⟩
  · show Calls _ _ _ _ fun e w' => e = .returned (.int .i64 (stepR left down A f1 layRef layAct).1) ∧ AtD X w0 w' g room (stepR left down A f1 layRef layAct)
    go_enter Try.func16, Try.ntmps16
    go_wp2_with fail
    refine (lay_calls f1 (HI.out.alloc _) (below_alloc' HB.out _) hl h1).mono ?_
    rintro e w1 ⟨rfl, h⟩
    have H := Lib.hid h
    clear h
    go_wp2
    go_ret
    exact ⟨rfl, H.out⟩
  · show Calls _ _ _ _ fun e w' => e = .returned (.int .i64 (stepR left down A f1 thereRef cutAct).1) ∧ AtD X w0 w' g room (stepR left down A f1 thereRef cutAct)
    go_enter Try.func16, Try.ntmps16
    go_wp2_with fail
    refine (cut_calls f1 (HI.out.alloc _) (below_alloc' HB.out _) hl h1).mono ?_
    rintro e w1 ⟨rfl, h⟩
    have H := Lib.hid h
    clear h
    go_wp2
    go_ret
    exact ⟨rfl, H.out⟩
  · show Calls _ _ _ _ fun e w' => e = .returned (.int .i64 (stepR left down A f1 (trimRef f2) (trimAct f2)).1) ∧ AtD X w0 w' g room (stepR left down A f1 (trimRef f2) (trimAct f2))
    go_enter Try.func16, Try.ntmps16
    go_wp2_with fail
    refine (trim_calls f1 f2 (HI.out.alloc _) (below_alloc' HB.out _) hl h1 (by omega)).mono ?_
    rintro e w1 ⟨rfl, h⟩
    have H := Lib.hid h
    clear h
    go_wp2
    go_ret
    exact ⟨rfl, H.out⟩
  · show Calls _ _ _ _ fun e w' => e = .returned (.int .i64 (stepR left down A f1 (writeRef (usedTo A 4) f3.size room) (writeAct f3)).1) ∧ AtD X w0 w' g room (stepR left down A f1 (writeRef (usedTo A 4) f3.size room) (writeAct f3))
    go_enter Try.func16, Try.ntmps16
    go_wp2_with fail
    refine (write_calls f1 f3 (HI.out.alloc _) (below_alloc' HB.out _) hl h1 (by omega) hrm).mono ?_
    rintro e w1 ⟨rfl, h⟩
    have H := Lib.hid h
    clear h
    go_wp2
    go_ret
    exact ⟨rfl, H.out⟩
  · show Calls _ _ _ _ fun e w' => e = .returned (.int .i64 (stepR left down A f1 thereRef syncAct).1) ∧ AtD X w0 w' g room (stepR left down A f1 thereRef syncAct)
    go_enter Try.func16, Try.ntmps16
    go_wp2_with fail
    refine (sync_calls f1 (HI.out.alloc _) (below_alloc' HB.out _) hl h1).mono ?_
    rintro e w1 ⟨rfl, h⟩
    have H := Lib.hid h
    clear h
    go_wp2
    go_ret
    exact ⟨rfl, H.out⟩
  · show Calls _ _ _ _ fun e w' => e = .returned (.int .i64 0) ∧ AtD X w0 w' g room (0, max f2 (-1), down, A)
    go_enter Try.func16, Try.ntmps16
    go_wp2_with fail
    refine (fuel_calls f2 (HI.out.alloc _) (below_alloc' HB.out _)).mono ?_
    rintro e w1 ⟨rfl, h, h2⟩
    have H := Lib.hid (show AtD X w0 w1 g room (0, max f2 (-1), down, A) from ⟨⟨_, _, h⟩, h2⟩)
    clear h h2
    go_wp2
    go_ret
    exact ⟨rfl, H.out⟩
  · show Calls _ _ _ _ fun e w' => e = .returned (.int .i64 0) ∧ AtD X w0 w' g room (0, -1, false, fallTo f4 A 4)
    go_enter Try.func16, Try.ntmps16
    go_wp2_with fail
    refine (fall_calls f4 R c hk (HI.out.alloc _) (below_alloc' HB.out _) (HR.out.allocS _) HKF.out HSB.out HBZ.out).mono ?_
    rintro e w1 ⟨rfl, ⟨V2, h⟩, h2⟩
    have H := Lib.hid (show AtD X w0 w1 g room (0, -1, false, fallTo f4 A 4) from ⟨⟨_, _, h⟩, h2⟩)
    clear h h2
    go_wp2
    go_ret
    exact ⟨rfl, H.out⟩
  · have HD : Hid (doR room left down A ⟨f0, f1, f2, f3, f4⟩ = (0, left, down, A)) := Lib.hid (by
      unfold doR
      rw [if_neg n0, if_neg n1, if_neg n2, if_neg n3, if_neg n4, if_neg n5, if_neg n6])
    rw [HD.out]
    go_enter Try.func16, Try.ntmps16
    go_wp2
    go_ret
    exact ⟨rfl, ⟨_, _, HI.out.alloc _⟩, below_alloc' HB.out _⟩
end
end Go.Proofs.Ytahfcnbdladfbaa

/- The walk of DrumApart: what is done to one area changes nothing of another one's bytes. Condition: what the arguments' types demand. -/
import Derived.Test.YtahfcnbdladfbaaBq
set_option linter.unusedVariables false
set_option linter.unusedSimpArgs false
namespace Go.Proofs.Ytahfcnbdladfbaa
open Go.RowKit Go.Deep Go.Proofs.YtahfcnbdladfbaaW.PrintWords

set_option maxRecDepth 100000 in
set_option maxHeartbeats 8000000 in
theorem apart_calls (room : Int) (hrm : -9223372036854775808 ≤ room ∧ room ≤ 9223372036854775807) (text : ByteArray) (htx : text.size ≤ 140737488351232) (R : Option Addr) (cap : Nat) (l : List S36) (hlc : l.length ≤ cap) (hf : ∀ x ∈ l, ActOk x) (w : World) (hC : k36.C w R l.length l) :
    Calls Try.prog 6 #[.int .i64 room, .string text, .slice R l.length cap] w fun e w' => e = .returned (.bool true) ∧ Below w.heap.size w w' := by
  have HA := Lib.hid (awake_calls w)
  have HC := Lib.hid hC
  have Hf := Lib.hid hf
  clear hC hf
  go_enter Try.func6, Try.ntmps6
  go_wp2_with fail
  refine HA.out.mono ?_
  rintro e w0 ⟨rfl, hB⟩
  have HB0 := Lib.hid hB
  clear hB HA
  rcases (show room < 0 ∨ (0 ≤ room ∧ 5000 < room) ∨ (0 ≤ room ∧ room ≤ 5000 ∧ room < (text.size : Int)) ∨ (0 ≤ room ∧ room ≤ 5000 ∧ (text.size : Int) ≤ room) by omega) with h1 | ⟨h1, h2⟩ | ⟨h1, h2, h3⟩ | ⟨h1, h2, h3⟩
  · go_wp2_with fail
    go_ret
    exact ⟨rfl, HB0.out⟩
  · go_wp2_with fail
    go_ret
    exact ⟨rfl, HB0.out⟩
  · go_wp2_with fail
    go_ret
    exact ⟨rfl, HB0.out⟩
  · have HN := Lib.hid (new_calls room hrm w w0 HB0.out)
    go_wp2_with fail
    refine HN.out.mono ?_
    rintro e w1 ⟨hB, h⟩
    rw [if_neg (by omega)] at h
    obtain ⟨g, rfl, K, V, hI⟩ := h
    have HI1 := Lib.hid hI
    have HB1 := Lib.hid hB
    clear hI hB HN HB0
    go_wp2_with fail
    refine (lay_calls 3 HI1.out HB1.out (by decide) (by decide)).mono ?_
    rw [show stepR (-1) false (fun _ => none) 3 layRef layAct = (0, -1, false, sole 3 ByteArray.empty 0) from sole_lay 3 (by decide)]
    rintro e w2 ⟨rfl, ⟨K, V, hI⟩, hB⟩
    have HI2 := Lib.hid hI
    have HB2 := Lib.hid hB
    clear hI hB HI1 HB1
    go_wp2_with fail
    have E1 := Lib.hid (show stepR (-1) false (sole 3 ByteArray.empty 0) 3 (writeRef (usedTo (sole 3 ByteArray.empty 0) 4) text.size room) (writeAct text) = (0, -1, false, sole 3 text 0) by
      have h := sole_write (-1) (-1) (by decide) 3 (by decide) ByteArray.empty text 0 room (by show ((0 + text.size : Nat) : Int) ≤ room; omega) (by decide)
      rw [ByteArray.empty_append] at h
      exact h)
    refine (write_calls 3 text HI2.out HB2.out (by decide) (by decide) (by rw [sole_used 3 (by decide)]; show 0 + text.size ≤ _; omega) (by omega)).mono ?_
    rw [E1.out]
    rintro e w3 ⟨rfl, ⟨K, V, hI⟩, hB⟩
    have HI3 := Lib.hid hI
    have HB3 := Lib.hid hB
    clear hI hB HI2 HB2 E1
    go_wp2_with fail
    refine (sync_calls 3 HI3.out HB3.out (by decide) (by decide)).mono ?_
    rw [show stepR (-1) false (sole 3 text 0) 3 thereRef syncAct = (0, -1, false, sole 3 text text.size) from sole_sync (-1) (-1) (by decide) 3 (by decide) text 0 (by decide)]
    rintro e w4 ⟨rfl, ⟨K, V, hI⟩, hB⟩
    have HI4 := Lib.hid hI
    have HB4 := Lib.hid hB
    clear hI hB HI3 HB3
    go_wp2_with fail
    go_loopg [54] (l.length + 1) (fun gk v54 wr => ∃ (i : Nat) (left : Int) (down : Bool) (A : Nat → Ar) (K : Nat → Nat) (V : Nat → Value), i ≤ l.length ∧ i ≤ 80 ∧ v54 = .int .i64 (i : Int) ∧ Aside0 (i + gk = l.length + 1) ∧ Aside0 (IsD w wr g room left down A K V ∧ Below w.heap.size w wr ∧ Fit room left A ∧ A 3 = some (text, text.size)))
    case atStart => exact ⟨0, -1, false, sole 3 text text.size, K, V, Nat.zero_le _, Nat.zero_le _, rfl, ⟨by omega⟩, ⟨HI4.out, HB4.out, Fit.sole 3 (by decide) text text.size (Nat.le_refl _) room (-1) (by omega) (by decide), rfl⟩⟩
    case round =>
      obtain ⟨i, left, down, A, K, V, hi, hi80, rfl, ⟨hg⟩, ⟨hI, hB, hFit, hA3⟩⟩ := hrel
      have HI := Lib.hid hI
      have HB := Lib.hid hB
      have HG := Lib.hid hg
      have HFit := Lib.hid hFit
      have HA3 := Lib.hid hA3
      clear hI hB hg hFit hA3 HI4 HB4
      rcases (show i < l.length ∨ i = l.length by omega) with hlt | hlt
      · obtain ⟨ad, B, c, ⟨f0, f1, f2, f3, f4⟩, rfl, hx, hok, k0, k1, k2, k3, k4, hbc, hrd, hfar⟩ := act_at HC.out HB.out Hf.out i hlt
        obtain ⟨o0, o1, o2, o3⟩ := hok
        dsimp only at *
        clear hx
        have HRD := Lib.hid hrd
        have HFAR := Lib.hid hfar
        clear hrd hfar
        rcases (show i = 80 ∨ i < 80 by omega) with h80 | h80
        · subst h80
          replace k0 : wr.cell? ⟨ad.block, ad.off + 400, none⟩ = some (.int .i64 f0) := k0
          replace k1 : wr.cell? ⟨ad.block, ad.off + 400 + 1, none⟩ = some (.int .i64 f1) := k1
          replace k2 : wr.cell? ⟨ad.block, ad.off + 400 + 2, none⟩ = some (.int .i64 f2) := k2
          replace k3 : wr.cell? ⟨ad.block, ad.off + 400 + 3, none⟩ = some (.string f3) := k3
          replace k4 : wr.cell? ⟨ad.block, ad.off + 400 + 4, none⟩ = some (.slice B f4.length c) := k4
          replace HI : Hid (IsD w (wr.alloc (.cells #[.int .i64 f0, .int .i64 f1, .int .i64 f2, .string f3, .slice B f4.length c] 36)) g room left down A K V) := Lib.hid (HI.out.alloc _)
          replace HB : Hid (Below w.heap.size w (wr.alloc (.cells #[.int .i64 f0, .int .i64 f1, .int .i64 f2, .string f3, .slice B f4.length c] 36))) := Lib.hid (below_alloc' HB.out _)
          go_wp2_with fail
          refine (fall_calls [] none 0 (by decide) HI.out HB.out (ReadsInt.nil _ _) (fun ad h => by cases h) HFit.out.sb (fun i hi b s e => by have := sz_le A i hi; rw [e] at this; have h3 : b.size ≤ usedTo A 4 := this; have := HFit.out.used; omega)).mono ?_
          rintro e w5 ⟨rfl, ⟨V5, hI⟩, hB⟩
          have HI5 := Lib.hid hI
          have HB5 := Lib.hid hB
          have HR : Hid (readR false (fallTo [] A 4) 3 = (text, 0)) := Lib.hid (readR_up _ 3 (by decide) text text.size (fall_kept [] 3 (by decide) A text HA3.out))
          clear hI hB HI HB
          go_wp2_with fail
          refine (read_calls 3 HI5.out HB5.out (by decide)).mono ?_
          rw [HR.out]
          rintro e w6 ⟨rfl, hI, hB⟩
          have HB6 := Lib.hid hB
          clear hI hB HI5 HB5
          go_wp2_with fail
          go_ret
          exact ⟨rfl, HB6.out⟩
        · rcases (show f1 = 3 ∨ f1 ≠ 3 by omega) with h31 | h31
          · subst h31
            have HI2 := Lib.hid (HI.out.alloc (.cells #[.int .i64 f0, .int .i64 3, .int .i64 f2, .string f3, .slice B f4.length c] 36))
            have HB2 := Lib.hid (below_alloc' HB.out (.cells #[.int .i64 f0, .int .i64 3, .int .i64 f2, .string f3, .slice B f4.length c] 36))
            go_wp2
            go_roundg (gk - 1)
            case measure => have := HG.out; omega
            case rel => exact ⟨i + 1, left, down, A, K, V, by omega, by omega, by go_num, ⟨by have := HG.out; omega⟩, ⟨HI2.out, HB2.out, HFit.out, HA3.out⟩⟩
          · have HFit2 := Lib.hid (HFit.out.act (down := down) ⟨f0, f1, f2, f3, f4⟩ o2)
            have HA32 := Lib.hid (far_act room left down A ⟨f0, f1, f2, f3, f4⟩ 3 (by decide) text HA3.out (by dsimp only; omega))
            have HDO := Lib.hid (do_calls (w := wr.alloc (.cells #[.int .i64 f0, .int .i64 f1, .int .i64 f2, .string f3, .slice B f4.length c] 36)) ⟨f0, f1, f2, f3, f4⟩ B c (HI.out.alloc _) (below_alloc' HB.out _) HFit.out (by omega) (by dsimp only; omega) o1 hbc (HRD.out.allocS _) HFAR.out)
            generalize doR room left down A ⟨f0, f1, f2, f3, f4⟩ = r at *
            obtain ⟨rc, l1, d1, A1⟩ := r
            dsimp only at *
            clear HI HB HFit HA3 HRD HFAR
            go_wp2_with fail
            refine HDO.out.mono ?_
            rintro e w5 ⟨rfl, ⟨K5, V5, hI⟩, hB⟩
            have HI5 := Lib.hid hI
            have HB5 := Lib.hid hB
            clear hI hB HDO
            go_wp2_with fail
            refine (read_calls 3 HI5.out HB5.out (by decide)).mono ?_
            rintro e w6 ⟨rfl, hI, hB⟩
            have HI6 := Lib.hid hI
            have HB6 := Lib.hid hB
            clear hI hB HI5 HB5
            have hus := HFit2.out.used
            obtain ⟨U, hU⟩ : ∃ U, U = usedTo A1 4 := ⟨_, rfl⟩
            have HU := Lib.hid hU
            rw [← hU] at hus
            clear hU
            cases d1 with
            | true =>
              rw [readR_down]
              go_wp2_with fail
              refine (used_calls HI6.out HB6.out (by rw [← HU.out]; omega)).mono ?_
              rw [← HU.out]
              rintro e w7 ⟨rfl, ⟨m, rfl⟩⟩
              have HI7 := Lib.hid (show IsD w (w6.drewN m) g room l1 true A1 K5 V5 from HI6.out.move fun _ _ => rfl)
              have HB7 := Lib.hid (pw_below_drewN HB6.out m)
              generalize w6.drewN m = w7 at *
              go_wp2_with fail
              refine (has_calls 3 HI7.out).mono ?_
              rw [show hasR A1 3 = true from hasR_at A1 3 (by decide) text text.size HA32.out]
              rintro e w8 ⟨rfl, rfl⟩
              go_wp2_with fail
              refine (down_calls HI7.out).mono ?_
              rintro e w9 ⟨rfl, rfl⟩
              go_wp2
              go_roundg (gk - 1)
              case measure => have := HG.out; omega
              case rel => exact ⟨i + 1, l1, true, A1, K5, V5, by omega, by omega, by go_num, ⟨by have := HG.out; omega⟩, ⟨HI7.out, HB7.out, HFit2.out, HA32.out⟩⟩
            | false =>
              rw [show readR false A1 3 = (text, 0) from readR_up A1 3 (by decide) text text.size HA32.out]
              go_wp2_with fail
              refine (used_calls HI6.out HB6.out (by rw [← HU.out]; omega)).mono ?_
              rw [← HU.out]
              rintro e w7 ⟨rfl, ⟨m, rfl⟩⟩
              have HI7 := Lib.hid (show IsD w (w6.drewN m) g room l1 false A1 K5 V5 from HI6.out.move fun _ _ => rfl)
              have HB7 := Lib.hid (pw_below_drewN HB6.out m)
              generalize w6.drewN m = w7 at *
              go_wp2_with fail
              refine (has_calls 3 HI7.out).mono ?_
              rw [show hasR A1 3 = true from hasR_at A1 3 (by decide) text text.size HA32.out]
              rintro e w8 ⟨rfl, rfl⟩
              go_wp2
              go_roundg (gk - 1)
              case measure => have := HG.out; omega
              case rel => exact ⟨i + 1, l1, false, A1, K5, V5, by omega, by omega, by go_num, ⟨by have := HG.out; omega⟩, ⟨HI7.out, HB7.out, HFit2.out, HA32.out⟩⟩
      · subst hlt
        go_wp2_with fail
        refine (fall_calls [] none 0 (by decide) HI.out HB.out (ReadsInt.nil _ _) (fun ad h => by cases h) HFit.out.sb (fun i hi b s e => by have := sz_le A i hi; rw [e] at this; have h3 : b.size ≤ usedTo A 4 := this; have := HFit.out.used; omega)).mono ?_
        rintro e w5 ⟨rfl, ⟨V5, hI⟩, hB⟩
        have HI5 := Lib.hid hI
        have HB5 := Lib.hid hB
        have HR : Hid (readR false (fallTo [] A 4) 3 = (text, 0)) := Lib.hid (readR_up _ 3 (by decide) text text.size (fall_kept [] 3 (by decide) A text HA3.out))
        clear hI hB HI HB
        go_wp2_with fail
        refine (read_calls 3 HI5.out HB5.out (by decide)).mono ?_
        rw [HR.out]
        rintro e w6 ⟨rfl, hI, hB⟩
        have HB6 := Lib.hid hB
        clear hI hB HI5 HB5
        go_wp2_with fail
        go_ret
        exact ⟨rfl, HB6.out⟩
theorem walk_DrumApart {H : Type} {enc : TypeId × Value → H} (W : World) (room : Int) (text : ByteArray) (v0 : Value) (d0 : DataW H) (p0 : List MemPlace)
    (w0 : (Lit.int .i64 room).wf = true) (w1 : text.size ≤ 140737488351232) (h0 : DataW.Trod enc Try.prog W 0 (fun _ => true) true 34 v0 d0 p0) {base : Nat} (u0 : Value.okWide Try.prog W .any base 34 v0) (z0 : ∀ n ∈ DataW.weights Try.prog 34 d0, n ≤ reachBytes) :
    Calls Try.prog 6 #[.int .i64 room, .string text, v0] W fun e w' => e = .returned (.bool true) ∧ Below W.heap.size W w' := by
  obtain ⟨A, c, l, rfl, hlc, hC, hl, _⟩ := acts_open W v0 d0 p0 h0 u0 z0
  exact apart_calls room (Go.bounds_i64 w0) text w1 A c l hlc hl W hC
end Go.Proofs.Ytahfcnbdladfbaa

/- The walk of LogFits: a record that is refused for want of room changes nothing. Condition: what the arguments' types demand. -/
import Derived.Test.YtccdmedhkbabpaaJ4
import Derived.Deep.DeepCutAuto
set_option linter.unusedVariables false
set_option linter.unusedSimpArgs false
namespace Go.Proofs.Ytccdmedhkbabpaa
open Go.RowKit Go.Deep Go.Proofs.YtccdmedhkbabpaaW.PrintWords PRd PFr

set_option maxRecDepth 100000 in
set_option maxHeartbeats 32000000 in
theorem fits_calls (R : Option Addr) (cap : Nat) (l : List ByteArray) (hlc : l.length ≤ cap) (room : Int) (hrm : -9223372036854775808 ≤ room ∧ room ≤ 9223372036854775807) (hsz : ∀ x ∈ l, x.size ≤ 140737488355328) (hll : l.length ≤ 9223372036854775807) (w : World) (hC : Kd.string.C w R l.length l) :
    Calls Try.prog 4 #[.slice R l.length cap, .int .i64 room] w fun e w' => e = .returned (.bool true) ∧ Below w.heap.size w w' := by
  have HA := Lib.hid (awake_calls w)
  have HC := Lib.hid hC
  have HSZ := Lib.hid hsz
  clear hC hsz
  go_enter Try.func4, Try.ntmps4
  go_wp2_with fail
  refine HA.out.mono ?_
  rintro e w0 ⟨rfl, hB⟩
  have HB0 := Lib.hid hB
  clear hB HA
  rcases (show 40 < (l.length : Int) ∨ ((l.length : Int) ≤ 40 ∧ room < 100) ∨ ((l.length : Int) ≤ 40 ∧ 100 ≤ room ∧ 4000 < room) ∨ ((l.length : Int) ≤ 40 ∧ 100 ≤ room ∧ room ≤ 4000) by omega) with h | ⟨h1, h2⟩ | ⟨h1, h2, h3⟩ | ⟨h1, h2, h3⟩
  · go_wp2_with fail
    go_ret
    exact ⟨rfl, HB0.out⟩
  · go_wp2_with fail
    go_ret
    exact ⟨rfl, HB0.out⟩
  · go_wp2_with fail
    go_ret
    exact ⟨rfl, HB0.out⟩
  · go_wp2_with fail
    refine (drum_new room (by omega) (by omega) w w0 HB0.out).mono ?_
    rintro e w1 ⟨g, rfl, ⟨K1, V1, hI1⟩, hB1⟩
    have HI1 := Lib.hid hI1
    have HB1 := Lib.hid hB1
    clear hI1 hB1 HB0
    go_wp2_with fail
    refine (log_new HI1.out HB1.out (by omega) (by omega)).mono ?_
    rintro e w2 ⟨gl, v2, A2, rfl, hgl, hL, hz, hR⟩
    have HL2 := Lib.hid hL
    have HGL := Lib.hid (Nat.le_trans HB1.out.size hgl)
    obtain ⟨R2, c2, rfl⟩ := Kd.R_slice hR
    clear hL hz hR hgl HI1 HB1
    go_wp2_with fail
    go_loopg [10, 47] (l.length + 1) (fun gk v10 v47 wr => ∃ (k : Nat) (v : Value) (A : Nat → Ar) (il : List ByteArray), k ≤ l.length ∧ v = v10 ∧ v47 = .int .i64 (k : Int) ∧ il.length ≤ k ∧ Aside0 (k + gk = l.length + 1) ∧ Aside0 (∀ x ∈ il, x.size ≤ 200) ∧
      Aside0 (LogAt NoX w wr g gl room (-1) A 0 1 il ∧ Kd.R Kd.string 9 wr w.heap.size (fun _ => True) v il))
    case atStart => exact ⟨0, .slice none 0 0, A2, [], Nat.zero_le _, rfl, rfl, Nat.le_refl _, ⟨by omega⟩, ⟨fun x hx => by cases hx⟩, ⟨HL2.out, Kd.R_nil _ _ _ _ _⟩⟩
    case round =>
      obtain ⟨k, v, A, il, hk, rfl, rfl, hil, ⟨hg⟩, ⟨hsm⟩, ⟨hL, hR⟩⟩ := hrel
      have HGK := Lib.hid hg
      have HSM := Lib.hid hsm
      have HL := Lib.hid hL
      have HR := Lib.hid hR
      clear hg hsm hL hR HL2
      rcases (show k < l.length ∨ k = l.length by omega) with hlt | hlt
      · obtain ⟨ad, rfl, k0⟩ := Kd.at_string (Kd.C_below HC.out HL.out.b) (k : Int) (by omega) (by omega)
        have hx : rdOf ByteArray.empty l (k : Int) = l[k] := by unfold rdOf; rw [List.getD_eq_getElem?_getD, Int.toNat_natCast, List.getElem?_eq_getElem hlt]; rfl
        rw [hx] at k0
        simp only [Int.toNat_natCast] at k0
        have hsx := HSZ.out l[k] (List.getElem_mem hlt)
        obtain ⟨x, hxx⟩ : ∃ x, x = l[k] := ⟨_, rfl⟩
        rw [← hxx] at k0 hsx
        clear hx hxx
        rcases (show 200 < (x.size : Int) ∨ (x.size : Int) ≤ 200 by omega) with hxs | hxs
        · have HB := Lib.hid HL.out.b
          go_wp2_with fail
          go_ret
          exact ⟨rfl, HB.out⟩
        · have HZX := Lib.hid (recF_exact x (by omega))
          have HFS := Lib.hid (HL.out.f.sz 0 (by decide))
          go_wp2_with fail
          refine (log_size (HL.out.andRow HR.out)).mono ?_
          rintro e w3 ⟨rfl, hL3⟩
          obtain ⟨hL3, hR3⟩ := hL3.outRow HR.out
          have HL3 := Lib.hid hL3
          have HR3 := Lib.hid hR3
          clear hL3 hR3 HL HR k0
          obtain ⟨z, hz⟩ : ∃ z, z = sz (A 0) := ⟨_, rfl⟩
          have HZ := Lib.hid hz
          rw [← hz] at HFS ⊢
          have hzr := HFS.out
          have hz0 : (0 : Int) ≤ (z : Int) := by omega
          clear hz
          go_wp2_with fail
          refine (log_append2 x (HL3.out.andRow HR3.out) (by decide) (by omega) (by omega)).mono ?_
          rintro e w4 ⟨c, A4, rfl, (⟨rfl, hL4, hz4⟩ | ⟨rfl, hL4, rfl, hfull⟩)⟩
          · obtain ⟨hL4, hR4⟩ := hL4.outRow HR3.out
            have HL4 := Lib.hid hL4
            have HR4 := Lib.hid hR4
            obtain ⟨A9, c9, rfl⟩ := Kd.R_slice hR4
            have hB4 := hL4.b
            have HB4 := Lib.hid hB4
            clear hL4 hR4 hz4 HL3 HR3 hB4
            have hil16 : (il.length + 1) * 16 ≤ 140737488355328 := by omega
            go_wp2_with (at_builtin; refine halt_ ?_)
            refine Lib.hid ?_
            refine Kd.R_append Kd.string (w0 := w) w.heap.size rfl (.tmp 61) (.tmp 63) 30 9 (.string ⟨#[]⟩) 16 rfl Try.underlying30 info_str rfl (by decide) (by omega) (.slice A9 il.length c9) il x [.string x] (fun _ => True) (fun _ => False) rfl rfl ?aP (fun _ hk => hk.elim) ?aF ?aO ?aB ?aS ?aL ?_
            case aP => exact rfl
            case aB => exact HB4.out
            case aF => exact (fun _ _ => trivial)
            case aO => exact HR4.out
            case aS => exact HB4.out.size
            case aL => exact hil16
            intro v1 w5 ho hb hg hat
            have HR5 := Lib.hid ho
            have HL5 := Lib.hid (HL4.out.keepRow HR4.out hg hb (fun k o hk => hk.elim))
            have HSM2 : Hid (∀ y ∈ il ++ [x], y.size ≤ 200) := Lib.hid (by
              intro y hy
              rcases List.mem_append.1 hy with hy | hy
              · exact HSM.out y hy
              · rw [List.mem_singleton.1 hy]; omega)
            have hil2 : (il ++ [x]).length ≤ k + 1 := by rw [List.length_append]; simp; omega
            clear ho hb hg hat HL4 HR4 HB4 hL4 hL3
            generalize il ++ [x] = il2 at *
            obtain ⟨A7, c7, rfl⟩ := Kd.R_slice HR5.out
            go_wp2_with fail
            go_roundg (gk - 1)
            case measure => have := HGK.out; omega
            case rel => exact ⟨k + 1, _, A4, il2, by omega, rfl, by go_num, hil2, ⟨by have := HGK.out; omega⟩, ⟨HSM2.out⟩, ⟨HL5.out, HR5.out⟩⟩
          · obtain ⟨hL4, hR4⟩ := hL4.outRow HR3.out
            have HL4 := Lib.hid hL4
            have HR4 := Lib.hid hR4
            have hfl : room < (z : Int) + (x.size : Int) + 7 := by rw [HZX.out, ← HZ.out] at hfull; omega
            clear hL4 hR4 HL3 HR3 hfull
            go_wp2_with fail
            refine (log_size (HL4.out.andRow HR4.out)).mono ?_
            rintro e w5 ⟨rfl, hL5⟩
            obtain ⟨hL5, hR5⟩ := hL5.outRow HR4.out
            have HL5 := Lib.hid hL5
            have HR5 := Lib.hid hR5
            rw [← HZ.out]
            clear hL5 hR5 HL4 HR4
            go_wp2_with fail
            go_roundg (gk - 1)
            case measure => have := HGK.out; omega
            case rel => exact ⟨k + 1, v, A4, il, by omega, rfl, by go_num, by omega, ⟨by have := HGK.out; omega⟩, ⟨HSM.out⟩, ⟨HL5.out, HR5.out⟩⟩
      · subst hlt
        have hil40 : il.length ≤ 40 := by omega
        have HIL : Hid (il.length ≤ 1000000) := Lib.hid (by omega)
        go_wp2_with fail
        obtain ⟨⟨K3, V3, hI3⟩, hB3, hF3, hU3⟩ := HL.out
        have HF3 := Lib.hid hF3
        have HU3 := Lib.hid hU3
        refine (log_fall [] none 0 (Nat.le_refl _) (hI3.andRow HR.out) hB3 hF3 (by omega) (reads_none _) (fun ad h => by cases h)).mono ?_
        rintro e w3 ⟨rfl, ⟨V4, hI4⟩, hB4⟩
        have HI4 := Lib.hid hI4
        have HB4 := Lib.hid hB4
        have HR0 := Lib.hid HR.out
        clear hI3 hB3 hF3 hU3 hI4 hB4 HL HGK
        go_wp2_with fail
        refine (log_reopen HI4.out HB4.out HF3.out HU3.out (by decide) (by omega)).mono ?_
        rintro e w4 ⟨gl2, v4, A4, rfl, hgl2, hL4, _, hR4⟩
        have HR4 := Lib.hid hR4
        have HRV : Hid (Kd.R Kd.string 9 w4 w.heap.size (fun _ => True) v il) := Lib.hid (RX_R HR0.out fun k o hk => (hL4.y (.inr hk)).1)
        have HL4 : Hid (LogAt NoX w w4 g gl2 room (-1) A4 0 1 il) := Lib.hid (hL4.toY fun k o hk => hk.elim)
        have HGL2 := Lib.hid (Nat.le_trans HB4.out.size hgl2)
        obtain ⟨AI, ci, rfl⟩ := Kd.R_slice HRV.out
        obtain ⟨AG, cg, rfl⟩ := Kd.R_slice hR4
        have hci := (Kd.R_reads' HRV.out).2.1
        clear hL4 hR4 hgl2 HI4 HB4 HF3 HU3 HR0 HR
        go_wp2_with fail
        refine (same_R il (by omega) AG AI cg ci _ _ w4 HR4.out HRV.out).mono ?_
        rintro e w5 ⟨rfl, ⟨m, rfl⟩⟩
        have HL5 := Lib.hid (HL4.out.below (pw_below_drewN (Below.refl _ _) m))
        have HR5 := Lib.hid (Kd.R_drewN HRV.out m)
        clear HL4 HR4 HRV
        generalize w4.drewN m = w5 at *
        rcases (show il.length = 0 ∨ 1 ≤ il.length by omega) with hz | hz
        · obtain rfl : il = [] := List.eq_nil_of_length_eq_zero hz
          clear hz
          have hmx : (max (0 : Int) (-1)) = 0 := by decide
          have HLAST : Hid (∀ (B : Option Addr) (W : World), Kd.R Kd.string 9 W w.heap.size (fun _ => True) (.slice AI ([] : List ByteArray).length ci) [] → Kd.string.C W B ([] : List ByteArray).length []) := Lib.hid (fun B W _ => ⟨rfl, by simp, fun h => absurd h (Nat.lt_irrefl 0)⟩)
          have HFT : Hid (allFit [] = true) := Lib.hid rfl
          have HNE : Hid (∀ k o, RX w5 (.slice AI ([] : List ByteArray).length ci) k o → k ≠ gl2) := Lib.hid (fun k o hk => by
            obtain ⟨_, cs, ho, _⟩ := HR5.out
            obtain ⟨K5, V5, hI5⟩ := HL5.out.d
            exact row_ne' ho (LX.at hI5) (by decide) k hk.1)
          rcases (show ci = 0 ∨ ¬ ci = 0 by omega) with hc0 | hc0
          · subst hc0
            replace HLAST := Lib.hid (HLAST.out AI)
            go_wp2_with fail
            refine (log_renew AI 0 [] (fun W _ hk => HLAST.out W (RX_R HR5.out fun k o h => hk k o (.inr h))) (by first | exact Nat.zero_le _ | omega) (fun k o hk => hk.elim (fun h => h.elim) (HNE.out k o)) HGL2.out (HL5.out.andRow HR5.out) (by decide) HFT.out (by first | exact Nat.zero_le _ | (show 1 ≤ _; decide)) (by omega)).mono ?_
            rintro e w6 ⟨code, A6, rfl, (⟨rfl, ar6, hL6, _⟩ | ⟨rfl, hL6, _, _⟩)⟩
            · obtain ⟨hL6, hR6⟩ := hL6.outRow HR5.out
              obtain ⟨⟨K6, V6, hI6⟩, hB6, hF6, hU6⟩ := hL6
              have HF6 := Lib.hid hF6
              have HU6 := Lib.hid hU6
              have HR6 := Lib.hid hR6
              have HI6 := Lib.hid hI6
              have HB6 := Lib.hid hB6
              clear hI6 hB6 hF6 hU6 hR6 HL5 HR5
              go_wp2_with fail
              refine (log_fall [] none 0 (Nat.le_refl _) (HI6.out.andRow HR6.out) HB6.out HF6.out (by omega) (reads_none _) (fun ad h => by cases h)).mono ?_
              rintro e w7 ⟨rfl, ⟨V7, hI7⟩, hB7⟩
              have HI7 := Lib.hid hI7
              have HB7 := Lib.hid hB7
              clear hI7 hB7 HI6 HB6
              go_wp2_with fail
              refine (log_reopen HI7.out HB7.out HF6.out HU6.out (by decide) (by omega)).mono ?_
              rintro e w8 ⟨gl3, v8, A8, rfl, hgl3, hL8, _, hR8⟩
              have HC8 := Lib.hid (HLAST.out w8 (RX_R HR6.out fun k o hk => (hL8.y (.inr hk)).1))
              obtain ⟨A9, c9, rfl⟩ := Kd.R_slice hR8
              have HR8 := Lib.hid (Kd.R_reads' hR8)
              have HB8 := Lib.hid hL8.b
              clear hL8 hR8 hgl3 HI7 HB7 HF6 HU6 HR6
              go_wp2_with fail
              refine (same_calls [] (by first | exact Nat.zero_le _ | (show 1 ≤ _; decide)) _ _ _ _ w8 HR8.out.2.2 HR8.out.2.1 HC8.out (by first | exact Nat.zero_le _ | omega)).mono ?_
              rintro e w9 ⟨rfl, ⟨m9, rfl⟩⟩
              go_wp2_with fail
              go_ret
              exact ⟨rfl, pw_below_drewN HB8.out m9⟩
            · obtain ⟨hL6, hR6⟩ := hL6.outRow HR5.out
              obtain ⟨⟨K6, V6, hI6⟩, hB6, hF6, hU6⟩ := hL6
              have HF6 := Lib.hid hF6
              have HU6 := Lib.hid hU6
              have HR6 := Lib.hid hR6
              have HI6 := Lib.hid hI6
              have HB6 := Lib.hid hB6
              clear hI6 hB6 hF6 hU6 hR6 HL5 HR5
              go_wp2_with fail
              refine (log_fall [] none 0 (Nat.le_refl _) (HI6.out.andRow HR6.out) HB6.out HF6.out (by omega) (reads_none _) (fun ad h => by cases h)).mono ?_
              rintro e w7 ⟨rfl, ⟨V7, hI7⟩, hB7⟩
              have HI7 := Lib.hid hI7
              have HB7 := Lib.hid hB7
              clear hI7 hB7 HI6 HB6
              go_wp2_with fail
              refine (log_reopen HI7.out HB7.out HF6.out HU6.out (by decide) (by omega)).mono ?_
              rintro e w8 ⟨gl3, v8, A8, rfl, hgl3, hL8, _, hR8⟩
              have HC8 := Lib.hid (Kd.R_reads' (RX_R HR6.out fun k o hk => (hL8.y (.inr hk)).1))
              obtain ⟨A9, c9, rfl⟩ := Kd.R_slice hR8
              have HR8 := Lib.hid (Kd.R_reads' hR8)
              have HB8 := Lib.hid hL8.b
              clear hL8 hR8 hgl3 HI7 HB7 HF6 HU6 HR6
              go_wp2_with fail
              refine (same_calls [] (by first | exact Nat.zero_le _ | omega) _ _ _ _ w8 HR8.out.2.2 HR8.out.2.1 HC8.out.2.2 HC8.out.2.1).mono ?_
              rintro e w9 ⟨rfl, ⟨m9, rfl⟩⟩
              go_wp2_with fail
              go_ret
              exact ⟨rfl, pw_below_drewN HB8.out m9⟩
          · replace HLAST := Lib.hid (HLAST.out AI)
            go_wp2_with fail
            refine (log_renew AI ci [] (fun W _ hk => HLAST.out W (RX_R HR5.out fun k o h => hk k o (.inr h))) (by first | exact Nat.zero_le _ | omega) (fun k o hk => hk.elim (fun h => h.elim) (HNE.out k o)) HGL2.out (HL5.out.andRow HR5.out) (by decide) HFT.out (by first | exact Nat.zero_le _ | (show 1 ≤ _; decide)) (by omega)).mono ?_
            rintro e w6 ⟨code, A6, rfl, (⟨rfl, ar6, hL6, _⟩ | ⟨rfl, hL6, _, _⟩)⟩
            · obtain ⟨hL6, hR6⟩ := hL6.outRow HR5.out
              obtain ⟨⟨K6, V6, hI6⟩, hB6, hF6, hU6⟩ := hL6
              have HF6 := Lib.hid hF6
              have HU6 := Lib.hid hU6
              have HR6 := Lib.hid hR6
              have HI6 := Lib.hid hI6
              have HB6 := Lib.hid hB6
              clear hI6 hB6 hF6 hU6 hR6 HL5 HR5
              go_wp2_with fail
              refine (log_fall [] none 0 (Nat.le_refl _) (HI6.out.andRow HR6.out) HB6.out HF6.out (by omega) (reads_none _) (fun ad h => by cases h)).mono ?_
              rintro e w7 ⟨rfl, ⟨V7, hI7⟩, hB7⟩
              have HI7 := Lib.hid hI7
              have HB7 := Lib.hid hB7
              clear hI7 hB7 HI6 HB6
              go_wp2_with fail
              refine (log_reopen HI7.out HB7.out HF6.out HU6.out (by decide) (by omega)).mono ?_
              rintro e w8 ⟨gl3, v8, A8, rfl, hgl3, hL8, _, hR8⟩
              have HC8 := Lib.hid (HLAST.out w8 (RX_R HR6.out fun k o hk => (hL8.y (.inr hk)).1))
              obtain ⟨A9, c9, rfl⟩ := Kd.R_slice hR8
              have HR8 := Lib.hid (Kd.R_reads' hR8)
              have HB8 := Lib.hid hL8.b
              clear hL8 hR8 hgl3 HI7 HB7 HF6 HU6 HR6
              go_wp2_with fail
              refine (same_calls [] (by first | exact Nat.zero_le _ | (show 1 ≤ _; decide)) _ _ _ _ w8 HR8.out.2.2 HR8.out.2.1 HC8.out (by first | exact Nat.zero_le _ | omega)).mono ?_
              rintro e w9 ⟨rfl, ⟨m9, rfl⟩⟩
              go_wp2_with fail
              go_ret
              exact ⟨rfl, pw_below_drewN HB8.out m9⟩
            · obtain ⟨hL6, hR6⟩ := hL6.outRow HR5.out
              obtain ⟨⟨K6, V6, hI6⟩, hB6, hF6, hU6⟩ := hL6
              have HF6 := Lib.hid hF6
              have HU6 := Lib.hid hU6
              have HR6 := Lib.hid hR6
              have HI6 := Lib.hid hI6
              have HB6 := Lib.hid hB6
              clear hI6 hB6 hF6 hU6 hR6 HL5 HR5
              go_wp2_with fail
              refine (log_fall [] none 0 (Nat.le_refl _) (HI6.out.andRow HR6.out) HB6.out HF6.out (by omega) (reads_none _) (fun ad h => by cases h)).mono ?_
              rintro e w7 ⟨rfl, ⟨V7, hI7⟩, hB7⟩
              have HI7 := Lib.hid hI7
              have HB7 := Lib.hid hB7
              clear hI7 hB7 HI6 HB6
              go_wp2_with fail
              refine (log_reopen HI7.out HB7.out HF6.out HU6.out (by decide) (by omega)).mono ?_
              rintro e w8 ⟨gl3, v8, A8, rfl, hgl3, hL8, _, hR8⟩
              have HC8 := Lib.hid (Kd.R_reads' (RX_R HR6.out fun k o hk => (hL8.y (.inr hk)).1))
              obtain ⟨A9, c9, rfl⟩ := Kd.R_slice hR8
              have HR8 := Lib.hid (Kd.R_reads' hR8)
              have HB8 := Lib.hid hL8.b
              clear hL8 hR8 hgl3 HI7 HB7 HF6 HU6 HR6
              go_wp2_with fail
              refine (same_calls [] (by first | exact Nat.zero_le _ | omega) _ _ _ _ w8 HR8.out.2.2 HR8.out.2.1 HC8.out.2.2 HC8.out.2.1).mono ?_
              rintro e w9 ⟨rfl, ⟨m9, rfl⟩⟩
              go_wp2_with fail
              go_ret
              exact ⟨rfl, pw_below_drewN HB8.out m9⟩
        · obtain ⟨mm, hmm⟩ : ∃ mm : Nat, il.length = mm + 1 := ⟨il.length - 1, by omega⟩
          have hmx : (max (0 : Int) ((il.length : Int) - 1)) = (mm : Int) := by omega
          have hml : mm ≤ il.length := by omega
          have hml2 : (mm : Int) ≤ (il.length : Int) := by omega
          have hm0 : (0 : Int) ≤ (mm : Int) := by omega
          have HN1 : Hid (il.length - mm = 1) := Lib.hid (by omega)
          have hmc : mm < ci := by omega
          have hmc2 : ¬ ci = mm := by omega
          obtain ⟨y, hy⟩ : ∃ y, il.drop mm = [y] := by
            have h := List.drop_eq_getElem_cons (l := il) (i := mm) (by omega)
            exact ⟨il[mm], by rw [h, List.drop_eq_nil_of_le (by omega)]⟩
          have HLAST : Hid (∀ (W : World), Kd.R Kd.string 9 W w.heap.size (fun _ => True) (.slice AI il.length ci) il → Kd.string.C W (Option.map (fun x => x.add mm) AI) [y].length [y]) := Lib.hid (fun W h => by
            obtain ⟨_, h1, h2⟩ := Kd.R_reads' h
            have h3 := Kd.C_drop (m := mm) h2 (by omega) h1
            rw [if_neg hmc2, hy] at h3
            rw [show mm * Kd.string.sz = mm from Nat.mul_one mm] at h3
            exact h3)
          have HFT : Hid (allFit [y] = true) := Lib.hid (by
            have hm : y ∈ il := List.mem_of_mem_drop (by rw [hy]; exact List.mem_singleton.2 rfl)
            have := HSM.out y hm
            unfold allFit
            rw [List.all_eq_true]
            intro z hz
            rw [List.mem_singleton.1 hz]
            exact decide_eq_true (by omega))
          have HNE : Hid (∀ k o, RX w5 (.slice AI il.length ci) k o → k ≠ gl2) := Lib.hid (fun k o hk => by
            obtain ⟨_, cs, ho, _⟩ := HR5.out
            obtain ⟨K5, V5, hI5⟩ := HL5.out.d
            exact row_ne' ho (LX.at hI5) (by decide) k hk.1)
          have HMM := Lib.hid hmm
          have HY := Lib.hid hy
          obtain ⟨AL, hAL⟩ : ∃ AL, AL = Option.map (fun x : Addr => x.add mm) AI := ⟨_, rfl⟩
          obtain ⟨cL, hcL⟩ : ∃ cL, cL = ci - mm := ⟨_, rfl⟩
          have HCL : Hid ([y].length ≤ cL) := Lib.hid (by show 1 ≤ cL; omega)
          rw [← hAL] at HLAST
          have HAL := Lib.hid hAL
          have HCLE := Lib.hid hcL
          clear hy hAL hcL hmm hz
          go_wp2_with fail
          rw [← HAL.out, ← HCLE.out, HN1.out]
          clear hmx hml hml2 hm0 hmc hmc2
          refine (log_renew AL cL [y] (fun W _ hk => HLAST.out W (RX_R HR5.out fun k o h => hk k o (.inr h))) HCL.out (fun k o hk => hk.elim (fun h => h.elim) (HNE.out k o)) HGL2.out (HL5.out.andRow HR5.out) (by decide) HFT.out (show 1 ≤ 1000000 by decide) (by omega)).mono ?_
          rintro e w6 ⟨code, A6, rfl, (⟨rfl, ar6, hL6, _⟩ | ⟨rfl, hL6, _, _⟩)⟩
          · obtain ⟨hL6, hR6⟩ := hL6.outRow HR5.out
            obtain ⟨⟨K6, V6, hI6⟩, hB6, hF6, hU6⟩ := hL6
            have HF6 := Lib.hid hF6
            have HU6 := Lib.hid hU6
            have HR6 := Lib.hid hR6
            have HI6 := Lib.hid hI6
            have HB6 := Lib.hid hB6
            clear hI6 hB6 hF6 hU6 hR6 HL5 HR5
            go_wp2_with fail
            refine (log_fall [] none 0 (Nat.le_refl _) (HI6.out.andRow HR6.out) HB6.out HF6.out (by omega) (reads_none _) (fun ad h => by cases h)).mono ?_
            rintro e w7 ⟨rfl, ⟨V7, hI7⟩, hB7⟩
            have HI7 := Lib.hid hI7
            have HB7 := Lib.hid hB7
            clear hI7 hB7 HI6 HB6
            go_wp2_with fail
            refine (log_reopen HI7.out HB7.out HF6.out HU6.out (by decide) (by omega)).mono ?_
            rintro e w8 ⟨gl3, v8, A8, rfl, hgl3, hL8, _, hR8⟩
            have HC8 := Lib.hid (HLAST.out w8 (RX_R HR6.out fun k o hk => (hL8.y (.inr hk)).1))
            obtain ⟨A9, c9, rfl⟩ := Kd.R_slice hR8
            have HR8 := Lib.hid (Kd.R_reads' hR8)
            have HB8 := Lib.hid hL8.b
            clear hL8 hR8 hgl3 HI7 HB7 HF6 HU6 HR6
            go_wp2_with fail
            refine (same_calls [y] (show 1 ≤ 1000000 by decide) _ _ _ _ w8 HR8.out.2.2 HR8.out.2.1 HC8.out HCL.out).mono ?_
            rintro e w9 ⟨rfl, ⟨m9, rfl⟩⟩
            go_wp2_with fail
            go_ret
            exact ⟨rfl, pw_below_drewN HB8.out m9⟩
          · obtain ⟨hL6, hR6⟩ := hL6.outRow HR5.out
            obtain ⟨⟨K6, V6, hI6⟩, hB6, hF6, hU6⟩ := hL6
            have HF6 := Lib.hid hF6
            have HU6 := Lib.hid hU6
            have HR6 := Lib.hid hR6
            have HI6 := Lib.hid hI6
            have HB6 := Lib.hid hB6
            clear hI6 hB6 hF6 hU6 hR6 HL5 HR5
            go_wp2_with fail
            refine (log_fall [] none 0 (Nat.le_refl _) (HI6.out.andRow HR6.out) HB6.out HF6.out (by omega) (reads_none _) (fun ad h => by cases h)).mono ?_
            rintro e w7 ⟨rfl, ⟨V7, hI7⟩, hB7⟩
            have HI7 := Lib.hid hI7
            have HB7 := Lib.hid hB7
            clear hI7 hB7 HI6 HB6
            go_wp2_with fail
            refine (log_reopen HI7.out HB7.out HF6.out HU6.out (by decide) (by omega)).mono ?_
            rintro e w8 ⟨gl3, v8, A8, rfl, hgl3, hL8, _, hR8⟩
            have HC8 := Lib.hid (Kd.R_reads' (RX_R HR6.out fun k o hk => (hL8.y (.inr hk)).1))
            obtain ⟨A9, c9, rfl⟩ := Kd.R_slice hR8
            have HR8 := Lib.hid (Kd.R_reads' hR8)
            have HB8 := Lib.hid hL8.b
            clear hL8 hR8 hgl3 HI7 HB7 HF6 HU6 HR6
            go_wp2_with fail
            refine (same_calls il HIL.out _ _ _ _ w8 HR8.out.2.2 HR8.out.2.1 HC8.out.2.2 HC8.out.2.1).mono ?_
            rintro e w9 ⟨rfl, ⟨m9, rfl⟩⟩
            go_wp2_with fail
            go_ret
            exact ⟨rfl, pw_below_drewN HB8.out m9⟩
set_option maxRecDepth 100000 in
theorem walk_LogFits {H : Type} {enc : TypeId × Value → H} (W : World) (v0 : Value) (d0 : DataW H) (p0 : List MemPlace) (room : Int)
    (h0 : DataW.Trod enc Try.prog W 0 (fun _ => true) true 30 v0 d0 p0) {base : Nat} (u0 : Value.okWide Try.prog W .any base 30 v0) (z0 : ∀ n ∈ DataW.weights Try.prog 30 d0, n ≤ reachBytes) (w1 : (Lit.int .i64 room).wf = true) :
    Calls Try.prog 4 #[v0, .int .i64 room] W fun e w' => e = .returned (.bool true) ∧ Below W.heap.size W w' := by
  obtain ⟨A, c, l, rfl, hlc, hC, hl, hll⟩ := strs_open W v0 d0 p0 h0 u0 z0
  exact fits_calls A c l hlc room (Go.bounds_i64 w1) hl hll W hC
end Go.Proofs.Ytccdmedhkbabpaa

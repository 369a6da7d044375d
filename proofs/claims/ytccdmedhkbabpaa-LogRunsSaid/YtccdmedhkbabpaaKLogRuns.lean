/- The walk of LogRuns: the log answers as the document's log. Condition: what the arguments' types demand. -/
import Derived.Test.YtccdmedhkbabpaaR4
import Derived.Deep.DeepCutAuto
set_option linter.unusedVariables false
set_option linter.unusedSimpArgs false
namespace Go.Proofs.Ytccdmedhkbabpaa
open Go.RowKit Go.Deep Go.Proofs.YtccdmedhkbabpaaW.PrintWords PRd PFr

theorem qg0 {α : Type} {l : List α} {i : Nat} : l.toArray[i]? = l[i]? := List.getElem?_toArray
theorem qg1 {α : Type} {a : α} {l : List α} {i : Nat} : (a :: l)[i + 1]? = l[i]? := List.getElem?_cons_succ
theorem qg2 {α : Type} {a : α} {l : List α} : (a :: l)[0]? = some a := List.getElem?_cons_zero
theorem qs0 {α : Type} {l : List α} {i : Nat} {x : α} : l.toArray.setIfInBounds i x = (l.set i x).toArray := List.setIfInBounds_toArray _ _ _
theorem qs1 {α : Type} {a b : α} {l : List α} : (a :: l).set 0 b = b :: l := List.set_cons_zero
theorem qs2 {α : Type} {a b : α} {l : List α} {i : Nat} : (a :: l).set (i + 1) b = a :: l.set i b := List.set_cons_succ
set_option maxRecDepth 100000 in
set_option maxHeartbeats 32000000 in
theorem runs_calls (R : Option Addr) (cap : Nat) (l : List S36) (hlc : l.length ≤ cap) (room : Int) (hrm : -9223372036854775808 ≤ room ∧ room ≤ 9223372036854775807) (hf : ∀ x ∈ l, ActOk x) (hll : l.length ≤ 9223372036854775807) (w : World) (hC : k36.C w R l.length l) :
    Calls Try.prog 6 #[.int .i64 room, .slice R l.length cap] w fun e w' => e = .returned (.bool true) ∧ Below w.heap.size w w' := by
  have HA := Lib.hid (awake_calls w)
  have HC := Lib.hid hC
  have HFS := Lib.hid hf
  clear hC hf
  go_enter Try.func6, Try.ntmps6
  go_wp2_with fail
  refine HA.out.mono ?_
  rintro e w0 ⟨rfl, hB⟩
  have HB0 := Lib.hid hB
  clear hB HA
  go_wp2_with fail
  refine (new_calls room hrm w w0 HB0.out).mono ?_
  rintro e w1 ⟨hB, h1⟩
  have HB1 := Lib.hid hB
  clear hB HB0
  by_cases hbad : room < 0 ∨ 1048576 < room
  · rw [if_pos hbad] at h1
    subst h1
    go_wp2_with fail
    refine (rnew_calls room hrm w w1 HB1.out).mono ?_
    rintro e w2 ⟨hB, h2⟩
    rw [if_pos hbad] at h2
    subst h2
    have HB2 := Lib.hid (below_then HB1.out HB1.out.size hB)
    clear hB HB1
    go_wp2_with fail
    go_ret
    exact ⟨rfl, HB2.out⟩
  rw [if_neg hbad] at h1
  obtain ⟨g, rfl, K, V, hI⟩ := h1
  have HI := Lib.hid hI
  have hroom : 0 ≤ room ∧ room ≤ 1048576 := by omega
  clear hI
  go_wp2_with fail
  refine (rnew_calls room hrm w w1 HB1.out).mono ?_
  rintro e w2 ⟨hB, h2⟩
  rw [if_neg hbad] at h2
  obtain ⟨gr, rfl, hgr, hR⟩ := h2
  have HT2 := Lib.hid (two_new room (HI.out.below hB) (below_then HB1.out HB1.out.size hB) hR)
  clear hB hR hgr HI HB1 hbad
  go_wp2_with fail
  refine (small_calls R cap l hlc HFS.out hll w w2 HC.out HT2.out.b).mono ?_
  rintro e w3 ⟨b, rfl, hB, hsm⟩
  have HT3 := Lib.hid (HT2.out.below hB)
  clear hB HT2
  cases b with
  | false =>
    go_wp2_with fail
    go_ret
    exact ⟨rfl, HT3.out.b⟩
  | true =>
  have HSM := Lib.hid (hsm rfl)
  clear hsm
  go_wp2_with fail
  refine (p_open2 HT3.out (Fit.none_ hroom.1) hroom.2).mono ?_
  rintro e w4 ⟨u, gl, R4, c4, l4, rfl, hM⟩
  have HM := Lib.hid hM
  obtain ⟨code, hcode⟩ : ∃ code, code = (openR room (-1) false (fun _ => (none : Ar))).1.1 := ⟨_, rfl⟩
  rw [← hcode]
  have HCD := Lib.hid hcode
  clear hM hcode HT3
  go_wp2_with fail
  refine (r_open2 HM.out NoX_acts rfl (Fit.none_ hroom.1) hroom.2).mono ?_
  rintro e w5 ⟨gm, R5, c5, rfl, hO, hl4, hC4, hc4, hC5, hc5⟩
  have HO := Lib.hid hO
  have HC4 := Lib.hid hC4
  have HC5 := Lib.hid hC5
  rw [← HCD.out]
  clear hO hC4 hC5 HM HCD
  go_wp2_with fail
  refine (same_calls9 l4 hl4 R4 R5 c4 c5 w5 HC4.out hc4 HC5.out hc5).mono ?_
  rintro e w6 ⟨rfl, ⟨m6, rfl⟩⟩
  have HO6 := Lib.hid (HO.out.below (pw_below_drewN (Below.refl _ _) m6))
  clear HO HC4 HC5
  generalize w5.drewN m6 = w6 at *
  go_wp2_with fail
  refine (p_same2 HO6.out hroom.2).mono ?_
  rintro e w7 ⟨rfl, hO⟩
  have HO7 := Lib.hid hO
  clear hO HO6
  go_wp2_with fail
  obtain ⟨v9, hv9⟩ : ∃ v, v = ptrIf u gl := ⟨_, rfl⟩
  obtain ⟨v12, hv12⟩ : ∃ v, v = ptrIf u gm := ⟨_, rfl⟩
  rw [← hv9, ← hv12]
  have HOS : Hid (∃ (u : Bool) (gl gm : Nat), v9 = ptrIf u gl ∧ v12 = ptrIf u gm ∧ Opened NoX w w7 g gr room u gl gm) := Lib.hid ⟨u, gl, gm, hv9, hv12, HO7.out⟩
  clear HO7 hv9 hv12 hl4 hc4 hc5
  go_loopg [9, 12, 67] (l.length + 1) (fun gk v9 v12 v67 wr => ∃ k : Nat, k ≤ l.length ∧ v67 = .int .i64 (k : Int) ∧ Aside0 (k + gk = l.length + 1) ∧ Aside0 (∃ (u : Bool) (gl gm : Nat), v9 = ptrIf u gl ∧ v12 = ptrIf u gm ∧ Opened NoX w wr g gr room u gl gm))
  case atStart => exact ⟨0, Nat.zero_le _, rfl, ⟨by omega⟩, ⟨HOS.out⟩⟩
  case round =>
    obtain ⟨wo, rfl⟩ : ∃ wo : World, wo = wr := ⟨_, rfl⟩
    obtain ⟨k, hk, rfl, ⟨hg⟩, ⟨u, gl, gm, rfl, rfl, hO⟩⟩ := hrel
    have HGK := Lib.hid hg
    have HO := Lib.hid hO
    clear hg hO HOS
    rcases (show k < l.length ∨ k = l.length by omega) with hlt | hlt
    · obtain ⟨ad, B, c, D, d, rfl, hok, k0, k1, k2, k3, k4, hbc, hrs, hdc, hrd, hfar⟩ := act_at HC.out HO.out.b HFS.out k hlt
      have H50 := Lib.hid (HSM.out.2 l[k] (List.getElem_mem hlt))
      obtain ⟨x, hx⟩ : ∃ x, x = l[k] := ⟨_, rfl⟩
      rw [← hx] at hok k0 k1 k2 k3 k4 hbc hrs hdc hrd hfar H50
      clear hx
      obtain ⟨f0, f1, f2, f3, f4⟩ := x
      dsimp only at *
      obtain ⟨o0, o1, o2, o3⟩ := hok
      dsimp only at o0 o1 o2 o3
      have HO3 := Lib.hid o3
      have HRS := Lib.hid hrs
      have HRD := Lib.hid hrd
      have HFAR := Lib.hid hfar
      have HZ := Lib.hid (HO.out.withAct f0 f1 f2 (.slice B f3.length c) (.slice D f4.length d))
      clear o3 hrs hrd hfar
      obtain ⟨n0, n1, n2, n3, n4⟩ := HZ.out.cells
      unfold actObj at n0 n1 n2 n3 n4
      rcases (show (60 ≤ (k : Int) ∧ (k : Int) ≤ 60) ∨ (k : Int) ≠ 60 by omega) with ⟨h60, h61⟩ | h60
      · have HOO := Lib.hid HZ.out.b
        go_wp2_with fail
        go_ret
        exact ⟨rfl, HOO.out⟩
      · have HAO := Lib.hid (ZA_acts wo.heap.size f0 f1 f2 (.slice B f3.length c) (.slice D f4.length d))
        rcases (show f0 = 3 ∨ f0 = 0 ∨ f0 = 1 ∨ f0 = 2 ∨ (f0 ≠ 3 ∧ f0 ≠ 0 ∧ f0 ≠ 1 ∧ f0 ≠ 2) by omega) with hw | hw | hw | hw | ⟨h3, h0, h1, h2⟩
        · as_aux_lemma =>
            subst hw
            go_wp2_with fail
            refine (p_fall2 f4 D d hdc HZ.out hroom.2 HRD.out HFAR.out).mono ?_
            clear k0 k1 k2 k3 k4 n0 n1 n2 n3 n4
            rintro e w8 ⟨rfl, hM⟩
            have HM := Lib.hid hM
            obtain ⟨n0, n1, n2, n3, n4⟩ := hM.cells
            clear hM HZ
            go_wp2_with fail
            refine (r_fall2 f4 D d hdc HM.out HAO.out hroom.2 HRD.out HFAR.out).mono ?_
            clear n0 n1 n2 n3 n4
            rintro e w9 ⟨rfl, hO⟩
            have HX := Lib.hid hO
            obtain ⟨n0, n1, n2, n3, n4⟩ := hO.cells
            clear hO HM
            rcases (show f1 < 0 ∨ (0 ≤ f1 ∧ f1 < 9) ∨ (0 ≤ f1 ∧ 9 ≤ f1) by omega) with hf | ⟨hf, hf2⟩ | ⟨hf, hf2⟩
            · go_wp2_with fail
              refine (p_open3 HX.out HAO.out hroom.2).mono ?_
              rintro e wa ⟨ua, gla, Ra, ca, la, coda, rfl, hcall⟩
              have HCALL := Lib.hid hcall
              clear hcall HX
              go_wp2_with fail
              refine HCALL.out.mono ?_
              rintro e wb ⟨gma, Rb, cb, rfl, hO, hla, hCa, hca, hCb, hcb⟩
              have HX := Lib.hid hO
              have HCa := Lib.hid hCa
              have HCb := Lib.hid hCb
              clear hO hCa hCb HCALL
              go_wp2_with fail
              refine (same_calls9 la hla Ra Rb ca cb wb HCa.out hca HCb.out hcb).mono ?_
              rintro e wc ⟨rfl, ⟨mc, rfl⟩⟩
              have HY := Lib.hid (HX.out.below (pw_below_drewN (Below.refl _ _) mc))
              clear HX HCa HCb
              generalize wb.drewN mc = wc at *
              go_wp2_with fail
              refine (p_same2 HY.out hroom.2).mono ?_
              rintro e wd ⟨rfl, hO⟩
              have HX := Lib.hid hO
              clear hO HY
              go_wp2_with fail
              go_roundg (gk - 1)
              case measure => have := HGK.out; omega
              case rel => exact ⟨k + 1, by omega, by go_num, ⟨by have := HGK.out; omega⟩, ⟨_, _, _, rfl, rfl, HX.out.noAct⟩⟩
            · go_wp2_with fail
              refine (p_fuel2 f1 HX.out).mono ?_
              clear n0 n1 n2 n3 n4
              rintro e w10 ⟨rfl, hM⟩
              have HM := Lib.hid hM
              obtain ⟨n0, n1, n2, n3, n4⟩ := hM.cells
              obtain ⟨lq, hlq, hfz⟩ := hM.left
              clear hM HX
              go_wp2_with fail
              have HX := Lib.hid (r_fuel2 (x := f1) HM.out HAO.out (by omega) (by omega))
              clear HM n0 n1 n2 n3 n4 hlq hfz
              generalize w10.setCell _ _ = w11 at *
              refine (p_open3 HX.out HAO.out hroom.2).mono ?_
              rintro e wa ⟨ua, gla, Ra, ca, la, coda, rfl, hcall⟩
              have HCALL := Lib.hid hcall
              clear hcall HX
              go_wp2_with fail
              refine HCALL.out.mono ?_
              rintro e wb ⟨gma, Rb, cb, rfl, hO, hla, hCa, hca, hCb, hcb⟩
              have HX := Lib.hid hO
              have HCa := Lib.hid hCa
              have HCb := Lib.hid hCb
              clear hO hCa hCb HCALL
              go_wp2_with fail
              refine (same_calls9 la hla Ra Rb ca cb wb HCa.out hca HCb.out hcb).mono ?_
              rintro e wc ⟨rfl, ⟨mc, rfl⟩⟩
              have HY := Lib.hid (HX.out.below (pw_below_drewN (Below.refl _ _) mc))
              clear HX HCa HCb
              generalize wb.drewN mc = wc at *
              go_wp2_with fail
              refine (p_same2 HY.out hroom.2).mono ?_
              rintro e wd ⟨rfl, hO⟩
              have HX := Lib.hid hO
              clear hO HY
              go_wp2_with fail
              go_roundg (gk - 1)
              case measure => have := HGK.out; omega
              case rel => exact ⟨k + 1, by omega, by go_num, ⟨by have := HGK.out; omega⟩, ⟨_, _, _, rfl, rfl, HX.out.noAct⟩⟩
            · go_wp2_with fail
              refine (p_open3 HX.out HAO.out hroom.2).mono ?_
              rintro e wa ⟨ua, gla, Ra, ca, la, coda, rfl, hcall⟩
              have HCALL := Lib.hid hcall
              clear hcall HX
              go_wp2_with fail
              refine HCALL.out.mono ?_
              rintro e wb ⟨gma, Rb, cb, rfl, hO, hla, hCa, hca, hCb, hcb⟩
              have HX := Lib.hid hO
              have HCa := Lib.hid hCa
              have HCb := Lib.hid hCb
              clear hO hCa hCb HCALL
              go_wp2_with fail
              refine (same_calls9 la hla Ra Rb ca cb wb HCa.out hca HCb.out hcb).mono ?_
              rintro e wc ⟨rfl, ⟨mc, rfl⟩⟩
              have HY := Lib.hid (HX.out.below (pw_below_drewN (Below.refl _ _) mc))
              clear HX HCa HCb
              generalize wb.drewN mc = wc at *
              go_wp2_with fail
              refine (p_same2 HY.out hroom.2).mono ?_
              rintro e wd ⟨rfl, hO⟩
              have HX := Lib.hid hO
              clear hO HY
              go_wp2_with fail
              go_roundg (gk - 1)
              case measure => have := HGK.out; omega
              case rel => exact ⟨k + 1, by omega, by go_num, ⟨by have := HGK.out; omega⟩, ⟨_, _, _, rfl, rfl, HX.out.noAct⟩⟩
        · as_aux_lemma =>
            subst hw
            cases u with
            | false =>
              rw [show ptrIf false gm = .pointer none from rfl]
              go_wp2_with fail
              refine (p_append2 f2 HZ.out o2 hroom.2).mono ?_
              clear k0 k1 k2 k3 k4 n0 n1 n2 n3 n4
              rintro e w8 ⟨code8, rfl, hM⟩
              obtain ⟨hcode8, hO⟩ := n_append2 hM
              subst hcode8
              have HX := Lib.hid hO
              obtain ⟨n0, n1, n2, n3, n4⟩ := hO.cells
              clear hM hO HZ
              go_wp2_with fail
              obtain ⟨ge, hge⟩ := HX.out.gOf
              have HG := Lib.hid hge
              have hger := hge.rng
              have HS := Lib.hid (fun (W : World) (h : OpenG (ZA wo.heap.size (actObj 0 f1 f2 (.slice B f3.length c) (.slice D f4.length d))) w W g gr room false gl gm ge) => g_same h hroom.2)
              clear hge HX
              refine wp_region_held_drew (S := fun w' => OpenG (ZA wo.heap.size (actObj 0 f1 f2 (.slice B f3.length c) (.slice D f4.length d))) w w' g gr room false gl gm ge) (by kernel_rfl) ?_ (fun hHeld => ?_)
              · exact HG.out.drew
              refine wpAnyH_take (i := 0) (v := ?_) (by simp only [qg0, qg1, qg2]; rfl) (by kernel_rfl) (by kernel_rfl) (by kernel_rfl) (by exact fun _ _ _ h => h) (Or.inl ⟨by rfl, ?_⟩) (by assumption) ?_; rotate_left; focus (intro w' hSw; (try dsimp only at hSw); go_simp; all_goals with_reducible rfl)
              try simp only [Act.put, qs0, qs1, qs2]
              refine wpAnyH_take (i := 1) (v := ?_) (by simp only [qg0, qg1, qg2]; rfl) (by kernel_rfl) (by kernel_rfl) (by kernel_rfl) (by exact fun _ _ _ h => h) (Or.inl ⟨by rfl, ?_⟩) (by assumption) ?_; rotate_left; focus (intro w' hSw; (try dsimp only at hSw); go_simp; all_goals with_reducible rfl)
              try simp only [Act.put, qs0, qs1, qs2]
              refine wpAnyH_take (i := 2) (v := ?_) (by simp only [qg0, qg1, qg2]; rfl) (by kernel_rfl) (by kernel_rfl) (by kernel_rfl) (by exact fun _ _ _ h => h) (Or.inl ⟨by rfl, ?_⟩) (by assumption) ?_; rotate_left; focus (intro w' hSw; (try dsimp only at hSw); go_simp; all_goals with_reducible rfl)
              try simp only [Act.put, qs0, qs1, qs2]
              refine wpAnyH_take (i := 3) (v := ?_) (by simp only [qg0, qg1, qg2]; rfl) (by kernel_rfl) (by kernel_rfl) (by kernel_rfl) (by exact fun _ _ _ h => h) (Or.inl ⟨by rfl, ?_⟩) (by assumption) ?_; rotate_left; focus (intro w' hSw; (try dsimp only at hSw); go_simp; all_goals with_reducible rfl)
              try simp only [Act.put, qs0, qs1, qs2]
              refine wpAnyH_take (i := 4) (v := ?_) (by simp only [qg0, qg1, qg2]; rfl) (by kernel_rfl) (by kernel_rfl) (by kernel_rfl) (by exact fun _ _ _ h => h) (Or.inl ⟨by rfl, ?_⟩) (by assumption) ?_; rotate_left; focus (intro w' hSw; (try dsimp only at hSw); go_simp; all_goals with_reducible rfl)
              try simp only [Act.put, qs0, qs1, qs2]
              refine wpAnyH_take (i := 5) (v := ?_) (by simp only [qg0, qg1, qg2]; rfl) (by kernel_rfl) (by kernel_rfl) (by kernel_rfl) (by exact fun _ _ _ h => h) (Or.inl ⟨by rfl, ?_⟩) (by assumption) ?_; rotate_left; focus (intro w' hSw; (try dsimp only at hSw); go_simp; all_goals with_reducible rfl)
              try simp only [Act.put, qs0, qs1, qs2]
              refine wpAnyH_ready (rs := [6]) (by kernel_rfl) (by simp) ?_
              refine AllReadyH.cons (by simp only [qg0, qg1, qg2]; rfl) (fun K hK => ?_) AllReadyH.nil
              go_simp
              refine (HS.out _ hHeld).mono ?_
              rintro e w3 ⟨rfl, hI3⟩
              refine hK.out _ _ ?_ (fun hHeld => ?_)
              · exact hI3
              clear hK K
              try simp only [Act.put, qs0, qs1, qs2]
              refine wpAnyH_take (i := 7) (v := ?_) (by simp only [qg0, qg1, qg2]; rfl) (by kernel_rfl) (by kernel_rfl) (by kernel_rfl) (by exact fun _ _ _ h => h) (Or.inl ⟨by rfl, ?_⟩) (by assumption) ?_; rotate_left; focus (intro w' hSw; (try dsimp only at hSw); go_simp; all_goals with_reducible rfl)
              try simp only [Act.put, qs0, qs1, qs2]
              refine wpAnyH_take (i := 8) (v := ?_) (by simp only [qg0, qg1, qg2]; rfl) (by kernel_rfl) (by kernel_rfl) (by kernel_rfl) (by exact fun _ _ _ h => h) (Or.inl ⟨by rfl, ?_⟩) (by assumption) ?_; rotate_left; focus (intro w' hSw; (try dsimp only at hSw); go_simp; all_goals with_reducible rfl)
              try simp only [Act.put, qs0, qs1, qs2]
              refine wpAnyH_take (i := 9) (v := ?_) (by simp only [qg0, qg1, qg2]; rfl) (by kernel_rfl) (by kernel_rfl) (by kernel_rfl) (by exact fun _ _ _ h => h) (Or.inl ⟨by rfl, ?_⟩) (by assumption) ?_; rotate_left; focus (intro w' hSw; (try dsimp only at hSw); go_simp; all_goals with_reducible rfl)
              try simp only [Act.put, qs0, qs1, qs2]
              refine wpAnyH_take (i := 10) (v := ?_) (by simp only [qg0, qg1, qg2]; rfl) (by kernel_rfl) (by kernel_rfl) (by kernel_rfl) (by exact fun _ _ _ h => h) (Or.inl ⟨by rfl, ?_⟩) (by assumption) ?_; rotate_left; focus (intro w' hSw; (try dsimp only at hSw); go_simp; all_goals with_reducible rfl)
              try simp only [Act.put, qs0, qs1, qs2]
              refine wpAnyH_take (i := 11) (v := ?_) (by simp only [qg0, qg1, qg2]; rfl) (by kernel_rfl) (by kernel_rfl) (by kernel_rfl) (by exact fun _ _ _ h => h) (Or.inl ⟨by rfl, ?_⟩) (by assumption) ?_; rotate_left; focus (intro w' hSw; (try dsimp only at hSw); go_simp; all_goals with_reducible rfl)
              try simp only [Act.put, qs0, qs1, qs2]
              refine wpAnyH_take (i := 12) (v := ?_) (by simp only [qg0, qg1, qg2]; rfl) (by kernel_rfl) (by kernel_rfl) (by kernel_rfl) (by exact fun _ _ _ h => h) (Or.inl ⟨by rfl, ?_⟩) (by assumption) ?_; rotate_left; focus (intro w' hSw; (try dsimp only at hSw); go_simp; all_goals with_reducible rfl)
              try simp only [Act.put, qs0, qs1, qs2]
              refine wpAnyH_take (i := 13) (v := undef) (by simp only [qg0, qg1, qg2]; rfl) (by kernel_rfl) (by kernel_rfl) (by kernel_rfl) (by exact fun _ _ _ h => h) (Or.inr ⟨by rfl, rfl⟩) (by assumption) ?_
              try simp only [Act.put, qs0, qs1, qs2]
              refine wpAnyH_take (i := 14) (v := undef) (by simp only [qg0, qg1, qg2]; rfl) (by kernel_rfl) (by kernel_rfl) (by kernel_rfl) (by exact fun _ _ _ h => h) (Or.inr ⟨by rfl, rfl⟩) (by assumption) ?_
              try simp only [Act.put, qs0, qs1, qs2]
              refine wpAnyH_take (i := 15) (v := undef) (by simp only [qg0, qg1, qg2]; rfl) (by kernel_rfl) (by kernel_rfl) (by kernel_rfl) (by exact fun _ _ _ h => h) (Or.inr ⟨by rfl, rfl⟩) (by assumption) ?_
              try simp only [Act.put, qs0, qs1, qs2]
              refine wpAnyH_take (i := 16) (v := undef) (by simp only [qg0, qg1, qg2]; rfl) (by kernel_rfl) (by kernel_rfl) (by kernel_rfl) (by exact fun _ _ _ h => h) (Or.inr ⟨by rfl, rfl⟩) (by assumption) ?_
              try simp only [Act.put, qs0, qs1, qs2]
              refine wpAnyH_take (i := 17) (v := undef) (by simp only [qg0, qg1, qg2]; rfl) (by kernel_rfl) (by kernel_rfl) (by kernel_rfl) (by exact fun _ _ _ h => h) (Or.inr ⟨by rfl, rfl⟩) (by assumption) ?_
              try simp only [Act.put, qs0, qs1, qs2]
              refine wpAnyH_take (i := 18) (v := undef) (by simp only [qg0, qg1, qg2]; rfl) (by kernel_rfl) (by kernel_rfl) (by kernel_rfl) (by exact fun _ _ _ h => h) (Or.inr ⟨by rfl, rfl⟩) (by assumption) ?_
              try simp only [Act.put, qs0, qs1, qs2]
              refine wpAnyH_take (i := 19) (v := undef) (by simp only [qg0, qg1, qg2]; rfl) (by kernel_rfl) (by kernel_rfl) (by kernel_rfl) (by exact fun _ _ _ h => h) (Or.inr ⟨by rfl, rfl⟩) (by assumption) ?_
              try simp only [Act.put, qs0, qs1, qs2]
              refine wpAnyH_take (i := 20) (v := ?_) (by simp only [qg0, qg1, qg2]; rfl) (by kernel_rfl) (by kernel_rfl) (by kernel_rfl) (by exact fun _ _ _ h => h) (Or.inl ⟨by rfl, ?_⟩) (by assumption) ?_; rotate_left; focus (intro w' hSw; (try dsimp only at hSw); go_simp; all_goals with_reducible rfl)
              try simp only [Act.put, qs0, qs1, qs2]
              refine wpAnyH_take (i := 21) (v := ?_) (by simp only [qg0, qg1, qg2]; rfl) (by kernel_rfl) (by kernel_rfl) (by kernel_rfl) (by exact fun _ _ _ h => h) (Or.inl ⟨by rfl, ?_⟩) (by assumption) ?_; rotate_left; focus (intro w' hSw; (try dsimp only at hSw); go_simp; all_goals with_reducible rfl)
              try simp only [Act.put, qs0, qs1, qs2]
              refine wpAnyH_take (i := 22) (v := ?_) (by simp only [qg0, qg1, qg2]; rfl) (by kernel_rfl) (by kernel_rfl) (by kernel_rfl) (by exact fun _ _ _ h => h) (Or.inl ⟨by rfl, ?_⟩) (by assumption) ?_; rotate_left; focus (intro w' hSw; (try dsimp only at hSw); go_simp; all_goals with_reducible rfl)
              try simp only [Act.put, qs0, qs1, qs2]
              refine wpAnyH_take (i := 23) (v := ?_) (by simp only [qg0, qg1, qg2]; rfl) (by kernel_rfl) (by kernel_rfl) (by kernel_rfl) (by exact fun _ _ _ h => h) (Or.inl ⟨by rfl, ?_⟩) (by assumption) ?_; rotate_left; focus (intro w' hSw; (try dsimp only at hSw); go_simp; all_goals with_reducible rfl)
              try simp only [Act.put, qs0, qs1, qs2]
              refine wpAnyH_take (i := 24) (v := ?_) (by simp only [qg0, qg1, qg2]; rfl) (by kernel_rfl) (by kernel_rfl) (by kernel_rfl) (by exact fun _ _ _ h => h) (Or.inl ⟨by rfl, ?_⟩) (by assumption) ?_; rotate_left; focus (intro w' hSw; (try dsimp only at hSw); go_simp; all_goals with_reducible rfl)
              try simp only [Act.put, qs0, qs1, qs2]
              refine wpAnyH_take (i := 25) (v := ?_) (by simp only [qg0, qg1, qg2]; rfl) (by kernel_rfl) (by kernel_rfl) (by kernel_rfl) (by exact fun _ _ _ h => h) (Or.inl ⟨by rfl, ?_⟩) (by assumption) ?_; rotate_left; focus (intro w' hSw; (try dsimp only at hSw); go_simp; all_goals with_reducible rfl)
              try simp only [Act.put, qs0, qs1, qs2]
              refine wpAnyH_take (i := 26) (v := ?_) (by simp only [qg0, qg1, qg2]; rfl) (by kernel_rfl) (by kernel_rfl) (by kernel_rfl) (by exact fun _ _ _ h => h) (Or.inl ⟨by rfl, ?_⟩) (by assumption) ?_; rotate_left; focus (intro w' hSw; (try dsimp only at hSw); go_simp; all_goals with_reducible rfl)
              try simp only [Act.put, qs0, qs1, qs2]
              refine wpAnyH_ready (rs := [27]) (by kernel_rfl) (by simp) ?_
              refine AllReadyH.cons (by simp only [qg0, qg1, qg2]; rfl) (fun K hK => ?_) AllReadyH.nil
              go_simp
              refine (g_gen hHeld).mono ?_
              rintro e w4 ⟨rfl, hI4⟩
              refine hK.out _ _ ?_ (fun hHeld => ?_)
              · exact hI4
              clear hK K
              try simp only [Act.put, qs0, qs1, qs2]
              refine wpAnyH_take (i := 28) (v := ?_) (by simp only [qg0, qg1, qg2]; rfl) (by kernel_rfl) (by kernel_rfl) (by kernel_rfl) (by exact fun _ _ _ h => h) (Or.inl ⟨by rfl, ?_⟩) (by assumption) ?_; rotate_left; focus (intro w' hSw; (try dsimp only at hSw); go_simp; all_goals with_reducible rfl)
              try simp only [Act.put, qs0, qs1, qs2]
              refine wpAnyH_take (i := 29) (v := ?_) (by simp only [qg0, qg1, qg2]; rfl) (by kernel_rfl) (by kernel_rfl) (by kernel_rfl) (by exact fun _ _ _ h => h) (Or.inl ⟨by rfl, ?_⟩) (by assumption) ?_; rotate_left; focus (intro w' hSw; (try dsimp only at hSw); go_simp; all_goals with_reducible rfl)
              try simp only [Act.put, qs0, qs1, qs2]
              refine wpAnyH_take (i := 30) (v := ?_) (by simp only [qg0, qg1, qg2]; rfl) (by kernel_rfl) (by kernel_rfl) (by kernel_rfl) (by exact fun _ _ _ h => h) (Or.inl ⟨by rfl, ?_⟩) (by assumption) ?_; rotate_left; focus (intro w' hSw; (try dsimp only at hSw); go_simp; all_goals with_reducible rfl)
              try simp only [Act.put, qs0, qs1, qs2]
              refine wpAnyH_ready (rs := [31]) (by kernel_rfl) (by simp) ?_
              refine AllReadyH.cons (by simp only [qg0, qg1, qg2]; rfl) (fun K hK => ?_) AllReadyH.nil
              go_simp
              refine (g_size hHeld).mono ?_
              rintro e w5 ⟨rfl, hI5⟩
              refine hK.out _ _ ?_ (fun hHeld => ?_)
              · exact hI5
              clear hK K
              try simp only [Act.put, qs0, qs1, qs2]
              refine wpAnyH_take (i := 32) (v := ?_) (by simp only [qg0, qg1, qg2]; rfl) (by kernel_rfl) (by kernel_rfl) (by kernel_rfl) (by exact fun _ _ _ h => h) (Or.inl ⟨by rfl, ?_⟩) (by assumption) ?_; rotate_left; focus (intro w' hSw; (try dsimp only at hSw); go_simp; all_goals with_reducible rfl)
              try simp only [Act.put, qs0, qs1, qs2]
              refine wpAnyH_take (i := 33) (v := ?_) (by simp only [qg0, qg1, qg2]; rfl) (by kernel_rfl) (by kernel_rfl) (by kernel_rfl) (by exact fun _ _ _ h => h) (Or.inl ⟨by rfl, ?_⟩) (by assumption) ?_; rotate_left; focus (intro w' hSw; (try dsimp only at hSw); go_simp; all_goals with_reducible rfl)
              try simp only [Act.put, qs0, qs1, qs2]
              refine wpAnyH_take (i := 34) (v := ?_) (by simp only [qg0, qg1, qg2]; rfl) (by kernel_rfl) (by kernel_rfl) (by kernel_rfl) (by exact fun _ _ _ h => h) (Or.inl ⟨by rfl, ?_⟩) (by assumption) ?_; rotate_left; focus (intro w' hSw; (try dsimp only at hSw); go_simp; all_goals with_reducible rfl)
              try simp only [Act.put, qs0, qs1, qs2]
              refine wpAnyH_take (i := 35) (v := ?_) (by simp only [qg0, qg1, qg2]; rfl) (by kernel_rfl) (by kernel_rfl) (by kernel_rfl) (by exact fun _ _ _ h => h) (Or.inl ⟨by rfl, ?_⟩) (by assumption) ?_; rotate_left; focus (intro w' hSw; (try dsimp only at hSw); go_simp; all_goals with_reducible rfl)
              try simp only [Act.put, qs0, qs1, qs2]
              refine wpAnyH_done (by kernel_rfl) ?_ _
              have HF := Lib.hid hHeld
              clear hHeld HG HS
              go_wp2_with fail
              go_roundg (gk - 1)
              case measure => have := HGK.out; omega
              case rel => exact ⟨k + 1, by omega, by go_num, ⟨by have := HGK.out; omega⟩, ⟨false, gl, gm, rfl, rfl, HF.out.o.noAct⟩⟩
            | true =>
              rw [show ptrIf true gm = .pointer (some ⟨gm, 0, none⟩) from rfl]
              go_wp2_with fail
              refine (p_append2 f2 HZ.out o2 hroom.2).mono ?_
              clear k0 k1 k2 k3 k4 n0 n1 n2 n3 n4
              rintro e w8 ⟨code8, rfl, hM⟩
              have HM := Lib.hid hM
              obtain ⟨n0, n1, n2, n3, n4⟩ := hM.cells
              clear hM HZ
              go_wp2_with fail
              refine (r_append2 f2 HM.out HAO.out o2 hroom.2).mono ?_
              clear n0 n1 n2 n3 n4
              rintro e w9 ⟨rfl, hO⟩
              have HX := Lib.hid hO
              clear hO HM
              go_wp2_with fail
              obtain ⟨ge, hge⟩ := HX.out.gOf
              have HG := Lib.hid hge
              have hger := hge.rng
              have HS := Lib.hid (fun (W : World) (h : OpenG (ZA wo.heap.size (actObj 0 f1 f2 (.slice B f3.length c) (.slice D f4.length d))) w W g gr room true gl gm ge) => g_same h hroom.2)
              clear hge HX
              refine wp_region_held_drew (S := fun w' => OpenG (ZA wo.heap.size (actObj 0 f1 f2 (.slice B f3.length c) (.slice D f4.length d))) w w' g gr room true gl gm ge ∧ w'.cell? ⟨gm, 2, none⟩ = some (.int .u64 ge)) (by kernel_rfl) ?_ (fun hHeld => ?_)
              · exact ⟨HG.out.drew, HG.out.drew.c2⟩
              refine wpAnyH_take (i := 0) (v := ?_) (by simp only [qg0, qg1, qg2]; rfl) (by kernel_rfl) (by kernel_rfl) (by kernel_rfl) (by exact fun _ _ _ h => h) (Or.inl ⟨by rfl, ?_⟩) (by assumption) ?_; rotate_left; focus (intro w' hSw; (try dsimp only at hSw); go_simp; all_goals with_reducible rfl)
              try simp only [Act.put, qs0, qs1, qs2]
              refine wpAnyH_take (i := 1) (v := ?_) (by simp only [qg0, qg1, qg2]; rfl) (by kernel_rfl) (by kernel_rfl) (by kernel_rfl) (by exact fun _ _ _ h => h) (Or.inl ⟨by rfl, ?_⟩) (by assumption) ?_; rotate_left; focus (intro w' hSw; (try dsimp only at hSw); go_simp; all_goals with_reducible rfl)
              try simp only [Act.put, qs0, qs1, qs2]
              refine wpAnyH_take (i := 2) (v := ?_) (by simp only [qg0, qg1, qg2]; rfl) (by kernel_rfl) (by kernel_rfl) (by kernel_rfl) (by exact fun _ _ _ h => h) (Or.inl ⟨by rfl, ?_⟩) (by assumption) ?_; rotate_left; focus (intro w' hSw; (try dsimp only at hSw); go_simp; all_goals with_reducible rfl)
              try simp only [Act.put, qs0, qs1, qs2]
              refine wpAnyH_take (i := 3) (v := ?_) (by simp only [qg0, qg1, qg2]; rfl) (by kernel_rfl) (by kernel_rfl) (by kernel_rfl) (by exact fun _ _ _ h => h) (Or.inl ⟨by rfl, ?_⟩) (by assumption) ?_; rotate_left; focus (intro w' hSw; (try dsimp only at hSw); go_simp; all_goals with_reducible rfl)
              try simp only [Act.put, qs0, qs1, qs2]
              refine wpAnyH_take (i := 4) (v := ?_) (by simp only [qg0, qg1, qg2]; rfl) (by kernel_rfl) (by kernel_rfl) (by kernel_rfl) (by exact fun _ _ _ h => h) (Or.inl ⟨by rfl, ?_⟩) (by assumption) ?_; rotate_left; focus (intro w' hSw; (try dsimp only at hSw); go_simp; all_goals with_reducible rfl)
              try simp only [Act.put, qs0, qs1, qs2]
              refine wpAnyH_take (i := 5) (v := ?_) (by simp only [qg0, qg1, qg2]; rfl) (by kernel_rfl) (by kernel_rfl) (by kernel_rfl) (by exact fun _ _ _ h => h) (Or.inl ⟨by rfl, ?_⟩) (by assumption) ?_; rotate_left; focus (intro w' hSw; (try dsimp only at hSw); go_simp; all_goals with_reducible rfl)
              try simp only [Act.put, qs0, qs1, qs2]
              refine wpAnyH_ready (rs := [6]) (by kernel_rfl) (by simp) ?_
              refine AllReadyH.cons (by simp only [qg0, qg1, qg2]; rfl) (fun K hK => ?_) AllReadyH.nil
              go_simp
              refine (HS.out _ hHeld.1).mono ?_
              rintro e w3 ⟨rfl, hI3⟩
              refine hK.out _ _ ?_ (fun hHeld => ?_)
              · exact ⟨hI3, hI3.c2⟩
              clear hK K
              try simp only [Act.put, qs0, qs1, qs2]
              refine wpAnyH_take (i := 7) (v := ?_) (by simp only [qg0, qg1, qg2]; rfl) (by kernel_rfl) (by kernel_rfl) (by kernel_rfl) (by exact fun _ _ _ h => h) (Or.inl ⟨by rfl, ?_⟩) (by assumption) ?_; rotate_left; focus (intro w' hSw; (try dsimp only at hSw); go_simp; all_goals with_reducible rfl)
              try simp only [Act.put, qs0, qs1, qs2]
              refine wpAnyH_take (i := 8) (v := ?_) (by simp only [qg0, qg1, qg2]; rfl) (by kernel_rfl) (by kernel_rfl) (by kernel_rfl) (by exact fun _ _ _ h => h) (Or.inl ⟨by rfl, ?_⟩) (by assumption) ?_; rotate_left; focus (intro w' hSw; (try dsimp only at hSw); go_simp; all_goals with_reducible rfl)
              try simp only [Act.put, qs0, qs1, qs2]
              refine wpAnyH_take (i := 9) (v := ?_) (by simp only [qg0, qg1, qg2]; rfl) (by kernel_rfl) (by kernel_rfl) (by kernel_rfl) (by exact fun _ _ _ h => h) (Or.inl ⟨by rfl, ?_⟩) (by assumption) ?_; rotate_left; focus (intro w' hSw; (try dsimp only at hSw); go_simp; all_goals with_reducible rfl)
              try simp only [Act.put, qs0, qs1, qs2]
              refine wpAnyH_take (i := 10) (v := ?_) (by simp only [qg0, qg1, qg2]; rfl) (by kernel_rfl) (by kernel_rfl) (by kernel_rfl) (by exact fun _ _ _ h => h) (Or.inl ⟨by rfl, ?_⟩) (by assumption) ?_; rotate_left; focus (intro w' hSw; (try dsimp only at hSw); go_simp; all_goals with_reducible rfl)
              try simp only [Act.put, qs0, qs1, qs2]
              refine wpAnyH_take (i := 11) (v := ?_) (by simp only [qg0, qg1, qg2]; rfl) (by kernel_rfl) (by kernel_rfl) (by kernel_rfl) (by exact fun _ _ _ h => h) (Or.inl ⟨by rfl, ?_⟩) (by assumption) ?_; rotate_left; focus (intro w' hSw; (try dsimp only at hSw); go_simp; all_goals with_reducible rfl)
              try simp only [Act.put, qs0, qs1, qs2]
              refine wpAnyH_take (i := 12) (v := ?_) (by simp only [qg0, qg1, qg2]; rfl) (by kernel_rfl) (by kernel_rfl) (by kernel_rfl) (by exact fun _ _ _ h => h) (Or.inl ⟨by rfl, ?_⟩) (by assumption) ?_; rotate_left; focus (intro w' hSw; (try dsimp only at hSw); go_simp; all_goals with_reducible rfl)
              try simp only [Act.put, qs0, qs1, qs2]
              refine wpAnyH_take (i := 13) (v := ?_) (by simp only [qg0, qg1, qg2]; rfl) (by kernel_rfl) (by kernel_rfl) (by kernel_rfl) (by exact fun _ _ _ h => h) (Or.inl ⟨by rfl, ?_⟩) (by assumption) ?_; rotate_left; focus (intro w' hSw; (try dsimp only at hSw); go_simp; all_goals with_reducible rfl)
              try simp only [Act.put, qs0, qs1, qs2]
              refine wpAnyH_take (i := 15) (v := ?_) (by simp only [qg0, qg1, qg2]; rfl) (by kernel_rfl) (by kernel_rfl) (by kernel_rfl) (by exact fun _ _ _ h => h) (Or.inl ⟨by rfl, ?_⟩) (by assumption) ?_; rotate_left; focus (intro w' hSw; (try dsimp only at hSw); go_simp; all_goals with_reducible rfl)
              try simp only [Act.put, qs0, qs1, qs2]
              refine wpAnyH_take (i := 16) (v := ?_) (by simp only [qg0, qg1, qg2]; rfl) (by kernel_rfl) (by kernel_rfl) (by kernel_rfl) (by exact fun _ _ _ h => h) (Or.inl ⟨by rfl, ?_⟩) (by assumption) ?_; rotate_left; focus (intro w' hSw; (try dsimp only at hSw); go_simp; all_goals with_reducible rfl)
              try simp only [Act.put, qs0, qs1, qs2]
              refine wpAnyH_take (i := 17) (v := ?_) (by simp only [qg0, qg1, qg2]; rfl) (by kernel_rfl) (by kernel_rfl) (by kernel_rfl) (by exact fun _ _ _ h => h) (Or.inl ⟨by rfl, ?_⟩) (by assumption) ?_; rotate_left; focus (intro w' hSw; (try dsimp only at hSw); go_simp; all_goals with_reducible rfl)
              try simp only [Act.put, qs0, qs1, qs2]
              refine wpAnyH_take (i := 18) (v := ?_) (by simp only [qg0, qg1, qg2]; rfl) (by kernel_rfl) (by kernel_rfl) (by kernel_rfl) (by exact fun _ _ _ h => h) (Or.inl ⟨by rfl, ?_⟩) (by assumption) ?_; rotate_left; focus (intro w' hSw; (try dsimp only at hSw); go_simp; all_goals with_reducible rfl)
              try simp only [Act.put, qs0, qs1, qs2]
              refine wpAnyH_ready (rs := [14]) (by kernel_rfl) (by simp) ?_
              refine AllReadyH.cons (by simp only [qg0, qg1, qg2]; rfl) (fun K hK => ?_) AllReadyH.nil
              go_simp
              refine (g_gen hHeld.1).mono ?_
              rintro e w4 ⟨rfl, hI4⟩
              refine hK.out _ _ ?_ (fun hHeld => ?_)
              · exact ⟨hI4, hI4.c2⟩
              clear hK K
              try simp only [Act.put, qs0, qs1, qs2]
              refine wpAnyH_take (i := 19) (v := ?_) (by simp only [qg0, qg1, qg2]; rfl) (by kernel_rfl) (by kernel_rfl) (by kernel_rfl) (by exact fun _ _ _ h => h) (Or.inl ⟨by rfl, ?_⟩) (by assumption) ?_; rotate_left; focus (intro w' hSw; (try dsimp only at hSw); go_simp; all_goals with_reducible rfl)
              try simp only [Act.put, qs0, qs1, qs2]
              refine wpAnyH_take (i := 20) (v := ?_) (by simp only [qg0, qg1, qg2]; rfl) (by kernel_rfl) (by kernel_rfl) (by kernel_rfl) (by exact fun _ _ _ h => h) (Or.inl ⟨by rfl, ?_⟩) (by assumption) ?_; rotate_left; focus (intro w' hSw; (try dsimp only at hSw); go_simp; all_goals with_reducible rfl)
              try simp only [Act.put, qs0, qs1, qs2]
              refine wpAnyH_take (i := 21) (v := ?_) (by simp only [qg0, qg1, qg2]; rfl) (by kernel_rfl) (by kernel_rfl) (by kernel_rfl) (by exact fun _ _ _ h => h) (Or.inl ⟨by rfl, ?_⟩) (by assumption) ?_; rotate_left; focus (intro w' hSw; (try dsimp only at hSw); go_simp; all_goals with_reducible rfl)
              try simp only [Act.put, qs0, qs1, qs2]
              refine wpAnyH_take (i := 22) (v := ?_) (by simp only [qg0, qg1, qg2]; rfl) (by kernel_rfl) (by kernel_rfl) (by kernel_rfl) (by exact fun _ _ _ h => h) (Or.inl ⟨by rfl, ?_⟩) (by assumption) ?_; rotate_left; focus (intro w' hSw; (try dsimp only at hSw); go_simp; all_goals with_reducible rfl)
              try simp only [Act.put, qs0, qs1, qs2]
              refine wpAnyH_take (i := 23) (v := ?_) (by simp only [qg0, qg1, qg2]; rfl) (by kernel_rfl) (by kernel_rfl) (by kernel_rfl) (by exact fun _ _ _ h => h) (Or.inl ⟨by rfl, ?_⟩) (by assumption) ?_; rotate_left; focus (intro w' hSw; (try dsimp only at hSw); go_simp; all_goals with_reducible rfl)
              try simp only [Act.put, qs0, qs1, qs2]
              refine wpAnyH_take (i := 24) (v := ?_) (by simp only [qg0, qg1, qg2]; rfl) (by kernel_rfl) (by kernel_rfl) (by kernel_rfl) (by exact fun _ _ _ h => h) (Or.inl ⟨by rfl, ?_⟩) (by assumption) ?_; rotate_left; focus (intro w' hSw; (try dsimp only at hSw); go_simp; all_goals with_reducible rfl)
              try simp only [Act.put, qs0, qs1, qs2]
              refine wpAnyH_take (i := 25) (v := ?_) (by simp only [qg0, qg1, qg2]; rfl) (by kernel_rfl) (by kernel_rfl) (by kernel_rfl) (by exact fun _ _ _ h => h) (Or.inl ⟨by rfl, ?_⟩) (by assumption) ?_; rotate_left; focus (intro w' hSw; (try dsimp only at hSw); go_simp; all_goals with_reducible rfl)
              try simp only [Act.put, qs0, qs1, qs2]
              refine wpAnyH_take (i := 26) (v := undef) (by simp only [qg0, qg1, qg2]; rfl) (by kernel_rfl) (by kernel_rfl) (by kernel_rfl) (by exact fun _ _ _ h => h) (Or.inr ⟨by rfl, rfl⟩) (by assumption) ?_
              try simp only [Act.put, qs0, qs1, qs2]
              refine wpAnyH_take (i := 27) (v := undef) (by simp only [qg0, qg1, qg2]; rfl) (by kernel_rfl) (by kernel_rfl) (by kernel_rfl) (by exact fun _ _ _ h => h) (Or.inr ⟨by rfl, rfl⟩) (by assumption) ?_
              try simp only [Act.put, qs0, qs1, qs2]
              refine wpAnyH_take (i := 28) (v := undef) (by simp only [qg0, qg1, qg2]; rfl) (by kernel_rfl) (by kernel_rfl) (by kernel_rfl) (by exact fun _ _ _ h => h) (Or.inr ⟨by rfl, rfl⟩) (by assumption) ?_
              try simp only [Act.put, qs0, qs1, qs2]
              refine wpAnyH_take (i := 29) (v := undef) (by simp only [qg0, qg1, qg2]; rfl) (by kernel_rfl) (by kernel_rfl) (by kernel_rfl) (by exact fun _ _ _ h => h) (Or.inr ⟨by rfl, rfl⟩) (by assumption) ?_
              try simp only [Act.put, qs0, qs1, qs2]
              refine wpAnyH_take (i := 30) (v := undef) (by simp only [qg0, qg1, qg2]; rfl) (by kernel_rfl) (by kernel_rfl) (by kernel_rfl) (by exact fun _ _ _ h => h) (Or.inr ⟨by rfl, rfl⟩) (by assumption) ?_
              try simp only [Act.put, qs0, qs1, qs2]
              refine wpAnyH_take (i := 31) (v := undef) (by simp only [qg0, qg1, qg2]; rfl) (by kernel_rfl) (by kernel_rfl) (by kernel_rfl) (by exact fun _ _ _ h => h) (Or.inr ⟨by rfl, rfl⟩) (by assumption) ?_
              try simp only [Act.put, qs0, qs1, qs2]
              refine wpAnyH_take (i := 32) (v := undef) (by simp only [qg0, qg1, qg2]; rfl) (by kernel_rfl) (by kernel_rfl) (by kernel_rfl) (by exact fun _ _ _ h => h) (Or.inr ⟨by rfl, rfl⟩) (by assumption) ?_
              try simp only [Act.put, qs0, qs1, qs2]
              refine wpAnyH_take (i := 33) (v := undef) (by simp only [qg0, qg1, qg2]; rfl) (by kernel_rfl) (by kernel_rfl) (by kernel_rfl) (by exact fun _ _ _ h => h) (Or.inr ⟨by rfl, rfl⟩) (by assumption) ?_
              try simp only [Act.put, qs0, qs1, qs2]
              refine wpAnyH_take (i := 34) (v := ?_) (by simp only [qg0, qg1, qg2]; rfl) (by kernel_rfl) (by kernel_rfl) (by kernel_rfl) (by exact fun _ _ _ h => h) (Or.inl ⟨by rfl, ?_⟩) (by assumption) ?_; rotate_left; focus (intro w' hSw; (try dsimp only at hSw); go_simp; all_goals with_reducible rfl)
              try simp only [Act.put, qs0, qs1, qs2]
              refine wpAnyH_take (i := 35) (v := ?_) (by simp only [qg0, qg1, qg2]; rfl) (by kernel_rfl) (by kernel_rfl) (by kernel_rfl) (by exact fun _ _ _ h => h) (Or.inl ⟨by rfl, ?_⟩) (by assumption) ?_; rotate_left; focus (intro w' hSw; (try dsimp only at hSw); go_simp; all_goals with_reducible rfl)
              try simp only [Act.put, qs0, qs1, qs2]
              refine wpAnyH_done (by kernel_rfl) ?_ _
              have HF := Lib.hid hHeld.1
              clear hHeld HG HS
              go_wp2_with fail
              go_roundg (gk - 1)
              case measure => have := HGK.out; omega
              case rel => exact ⟨k + 1, by omega, by go_num, ⟨by have := HGK.out; omega⟩, ⟨true, gl, gm, rfl, rfl, HF.out.o.noAct⟩⟩
        · as_aux_lemma =>
            subst hw
            cases u with
            | false =>
              rw [show ptrIf false gm = .pointer none from rfl]
              go_wp2_with fail
              refine (p_renew2 B c f3 HRS.out hbc HZ.out HAO.out (Nat.le_trans H50.out (by decide)) HO3.out hroom.2).mono ?_
              clear k0 k1 k2 k3 k4 n0 n1 n2 n3 n4
              rintro e w8 ⟨code8, rfl, hM⟩
              obtain ⟨hcode8, hO⟩ := n_renew2 hM
              subst hcode8
              have HX := Lib.hid hO
              obtain ⟨n0, n1, n2, n3, n4⟩ := hO.cells
              clear hM hO HZ
              go_wp2_with fail
              obtain ⟨ge, hge⟩ := HX.out.gOf
              have HG := Lib.hid hge
              have hger := hge.rng
              have HS := Lib.hid (fun (W : World) (h : OpenG (ZA wo.heap.size (actObj 1 f1 f2 (.slice B f3.length c) (.slice D f4.length d))) w W g gr room false gl gm ge) => g_same h hroom.2)
              clear hge HX
              refine wp_region_held_drew (S := fun w' => OpenG (ZA wo.heap.size (actObj 1 f1 f2 (.slice B f3.length c) (.slice D f4.length d))) w w' g gr room false gl gm ge) (by kernel_rfl) ?_ (fun hHeld => ?_)
              · exact HG.out.drew
              refine wpAnyH_take (i := 0) (v := ?_) (by simp only [qg0, qg1, qg2]; rfl) (by kernel_rfl) (by kernel_rfl) (by kernel_rfl) (by exact fun _ _ _ h => h) (Or.inl ⟨by rfl, ?_⟩) (by assumption) ?_; rotate_left; focus (intro w' hSw; (try dsimp only at hSw); go_simp; all_goals with_reducible rfl)
              try simp only [Act.put, qs0, qs1, qs2]
              refine wpAnyH_take (i := 1) (v := ?_) (by simp only [qg0, qg1, qg2]; rfl) (by kernel_rfl) (by kernel_rfl) (by kernel_rfl) (by exact fun _ _ _ h => h) (Or.inl ⟨by rfl, ?_⟩) (by assumption) ?_; rotate_left; focus (intro w' hSw; (try dsimp only at hSw); go_simp; all_goals with_reducible rfl)
              try simp only [Act.put, qs0, qs1, qs2]
              refine wpAnyH_take (i := 2) (v := ?_) (by simp only [qg0, qg1, qg2]; rfl) (by kernel_rfl) (by kernel_rfl) (by kernel_rfl) (by exact fun _ _ _ h => h) (Or.inl ⟨by rfl, ?_⟩) (by assumption) ?_; rotate_left; focus (intro w' hSw; (try dsimp only at hSw); go_simp; all_goals with_reducible rfl)
              try simp only [Act.put, qs0, qs1, qs2]
              refine wpAnyH_take (i := 3) (v := ?_) (by simp only [qg0, qg1, qg2]; rfl) (by kernel_rfl) (by kernel_rfl) (by kernel_rfl) (by exact fun _ _ _ h => h) (Or.inl ⟨by rfl, ?_⟩) (by assumption) ?_; rotate_left; focus (intro w' hSw; (try dsimp only at hSw); go_simp; all_goals with_reducible rfl)
              try simp only [Act.put, qs0, qs1, qs2]
              refine wpAnyH_take (i := 4) (v := ?_) (by simp only [qg0, qg1, qg2]; rfl) (by kernel_rfl) (by kernel_rfl) (by kernel_rfl) (by exact fun _ _ _ h => h) (Or.inl ⟨by rfl, ?_⟩) (by assumption) ?_; rotate_left; focus (intro w' hSw; (try dsimp only at hSw); go_simp; all_goals with_reducible rfl)
              try simp only [Act.put, qs0, qs1, qs2]
              refine wpAnyH_take (i := 5) (v := ?_) (by simp only [qg0, qg1, qg2]; rfl) (by kernel_rfl) (by kernel_rfl) (by kernel_rfl) (by exact fun _ _ _ h => h) (Or.inl ⟨by rfl, ?_⟩) (by assumption) ?_; rotate_left; focus (intro w' hSw; (try dsimp only at hSw); go_simp; all_goals with_reducible rfl)
              try simp only [Act.put, qs0, qs1, qs2]
              refine wpAnyH_ready (rs := [6]) (by kernel_rfl) (by simp) ?_
              refine AllReadyH.cons (by simp only [qg0, qg1, qg2]; rfl) (fun K hK => ?_) AllReadyH.nil
              go_simp
              refine (HS.out _ hHeld).mono ?_
              rintro e w3 ⟨rfl, hI3⟩
              refine hK.out _ _ ?_ (fun hHeld => ?_)
              · exact hI3
              clear hK K
              try simp only [Act.put, qs0, qs1, qs2]
              refine wpAnyH_take (i := 7) (v := ?_) (by simp only [qg0, qg1, qg2]; rfl) (by kernel_rfl) (by kernel_rfl) (by kernel_rfl) (by exact fun _ _ _ h => h) (Or.inl ⟨by rfl, ?_⟩) (by assumption) ?_; rotate_left; focus (intro w' hSw; (try dsimp only at hSw); go_simp; all_goals with_reducible rfl)
              try simp only [Act.put, qs0, qs1, qs2]
              refine wpAnyH_take (i := 8) (v := ?_) (by simp only [qg0, qg1, qg2]; rfl) (by kernel_rfl) (by kernel_rfl) (by kernel_rfl) (by exact fun _ _ _ h => h) (Or.inl ⟨by rfl, ?_⟩) (by assumption) ?_; rotate_left; focus (intro w' hSw; (try dsimp only at hSw); go_simp; all_goals with_reducible rfl)
              try simp only [Act.put, qs0, qs1, qs2]
              refine wpAnyH_take (i := 9) (v := ?_) (by simp only [qg0, qg1, qg2]; rfl) (by kernel_rfl) (by kernel_rfl) (by kernel_rfl) (by exact fun _ _ _ h => h) (Or.inl ⟨by rfl, ?_⟩) (by assumption) ?_; rotate_left; focus (intro w' hSw; (try dsimp only at hSw); go_simp; all_goals with_reducible rfl)
              try simp only [Act.put, qs0, qs1, qs2]
              refine wpAnyH_take (i := 10) (v := ?_) (by simp only [qg0, qg1, qg2]; rfl) (by kernel_rfl) (by kernel_rfl) (by kernel_rfl) (by exact fun _ _ _ h => h) (Or.inl ⟨by rfl, ?_⟩) (by assumption) ?_; rotate_left; focus (intro w' hSw; (try dsimp only at hSw); go_simp; all_goals with_reducible rfl)
              try simp only [Act.put, qs0, qs1, qs2]
              refine wpAnyH_take (i := 11) (v := ?_) (by simp only [qg0, qg1, qg2]; rfl) (by kernel_rfl) (by kernel_rfl) (by kernel_rfl) (by exact fun _ _ _ h => h) (Or.inl ⟨by rfl, ?_⟩) (by assumption) ?_; rotate_left; focus (intro w' hSw; (try dsimp only at hSw); go_simp; all_goals with_reducible rfl)
              try simp only [Act.put, qs0, qs1, qs2]
              refine wpAnyH_take (i := 12) (v := ?_) (by simp only [qg0, qg1, qg2]; rfl) (by kernel_rfl) (by kernel_rfl) (by kernel_rfl) (by exact fun _ _ _ h => h) (Or.inl ⟨by rfl, ?_⟩) (by assumption) ?_; rotate_left; focus (intro w' hSw; (try dsimp only at hSw); go_simp; all_goals with_reducible rfl)
              try simp only [Act.put, qs0, qs1, qs2]
              refine wpAnyH_take (i := 13) (v := undef) (by simp only [qg0, qg1, qg2]; rfl) (by kernel_rfl) (by kernel_rfl) (by kernel_rfl) (by exact fun _ _ _ h => h) (Or.inr ⟨by rfl, rfl⟩) (by assumption) ?_
              try simp only [Act.put, qs0, qs1, qs2]
              refine wpAnyH_take (i := 14) (v := undef) (by simp only [qg0, qg1, qg2]; rfl) (by kernel_rfl) (by kernel_rfl) (by kernel_rfl) (by exact fun _ _ _ h => h) (Or.inr ⟨by rfl, rfl⟩) (by assumption) ?_
              try simp only [Act.put, qs0, qs1, qs2]
              refine wpAnyH_take (i := 15) (v := undef) (by simp only [qg0, qg1, qg2]; rfl) (by kernel_rfl) (by kernel_rfl) (by kernel_rfl) (by exact fun _ _ _ h => h) (Or.inr ⟨by rfl, rfl⟩) (by assumption) ?_
              try simp only [Act.put, qs0, qs1, qs2]
              refine wpAnyH_take (i := 16) (v := undef) (by simp only [qg0, qg1, qg2]; rfl) (by kernel_rfl) (by kernel_rfl) (by kernel_rfl) (by exact fun _ _ _ h => h) (Or.inr ⟨by rfl, rfl⟩) (by assumption) ?_
              try simp only [Act.put, qs0, qs1, qs2]
              refine wpAnyH_take (i := 17) (v := undef) (by simp only [qg0, qg1, qg2]; rfl) (by kernel_rfl) (by kernel_rfl) (by kernel_rfl) (by exact fun _ _ _ h => h) (Or.inr ⟨by rfl, rfl⟩) (by assumption) ?_
              try simp only [Act.put, qs0, qs1, qs2]
              refine wpAnyH_take (i := 18) (v := undef) (by simp only [qg0, qg1, qg2]; rfl) (by kernel_rfl) (by kernel_rfl) (by kernel_rfl) (by exact fun _ _ _ h => h) (Or.inr ⟨by rfl, rfl⟩) (by assumption) ?_
              try simp only [Act.put, qs0, qs1, qs2]
              refine wpAnyH_take (i := 19) (v := undef) (by simp only [qg0, qg1, qg2]; rfl) (by kernel_rfl) (by kernel_rfl) (by kernel_rfl) (by exact fun _ _ _ h => h) (Or.inr ⟨by rfl, rfl⟩) (by assumption) ?_
              try simp only [Act.put, qs0, qs1, qs2]
              refine wpAnyH_take (i := 20) (v := ?_) (by simp only [qg0, qg1, qg2]; rfl) (by kernel_rfl) (by kernel_rfl) (by kernel_rfl) (by exact fun _ _ _ h => h) (Or.inl ⟨by rfl, ?_⟩) (by assumption) ?_; rotate_left; focus (intro w' hSw; (try dsimp only at hSw); go_simp; all_goals with_reducible rfl)
              try simp only [Act.put, qs0, qs1, qs2]
              refine wpAnyH_take (i := 21) (v := ?_) (by simp only [qg0, qg1, qg2]; rfl) (by kernel_rfl) (by kernel_rfl) (by kernel_rfl) (by exact fun _ _ _ h => h) (Or.inl ⟨by rfl, ?_⟩) (by assumption) ?_; rotate_left; focus (intro w' hSw; (try dsimp only at hSw); go_simp; all_goals with_reducible rfl)
              try simp only [Act.put, qs0, qs1, qs2]
              refine wpAnyH_take (i := 22) (v := ?_) (by simp only [qg0, qg1, qg2]; rfl) (by kernel_rfl) (by kernel_rfl) (by kernel_rfl) (by exact fun _ _ _ h => h) (Or.inl ⟨by rfl, ?_⟩) (by assumption) ?_; rotate_left; focus (intro w' hSw; (try dsimp only at hSw); go_simp; all_goals with_reducible rfl)
              try simp only [Act.put, qs0, qs1, qs2]
              refine wpAnyH_take (i := 23) (v := ?_) (by simp only [qg0, qg1, qg2]; rfl) (by kernel_rfl) (by kernel_rfl) (by kernel_rfl) (by exact fun _ _ _ h => h) (Or.inl ⟨by rfl, ?_⟩) (by assumption) ?_; rotate_left; focus (intro w' hSw; (try dsimp only at hSw); go_simp; all_goals with_reducible rfl)
              try simp only [Act.put, qs0, qs1, qs2]
              refine wpAnyH_take (i := 24) (v := ?_) (by simp only [qg0, qg1, qg2]; rfl) (by kernel_rfl) (by kernel_rfl) (by kernel_rfl) (by exact fun _ _ _ h => h) (Or.inl ⟨by rfl, ?_⟩) (by assumption) ?_; rotate_left; focus (intro w' hSw; (try dsimp only at hSw); go_simp; all_goals with_reducible rfl)
              try simp only [Act.put, qs0, qs1, qs2]
              refine wpAnyH_take (i := 25) (v := ?_) (by simp only [qg0, qg1, qg2]; rfl) (by kernel_rfl) (by kernel_rfl) (by kernel_rfl) (by exact fun _ _ _ h => h) (Or.inl ⟨by rfl, ?_⟩) (by assumption) ?_; rotate_left; focus (intro w' hSw; (try dsimp only at hSw); go_simp; all_goals with_reducible rfl)
              try simp only [Act.put, qs0, qs1, qs2]
              refine wpAnyH_take (i := 26) (v := ?_) (by simp only [qg0, qg1, qg2]; rfl) (by kernel_rfl) (by kernel_rfl) (by kernel_rfl) (by exact fun _ _ _ h => h) (Or.inl ⟨by rfl, ?_⟩) (by assumption) ?_; rotate_left; focus (intro w' hSw; (try dsimp only at hSw); go_simp; all_goals with_reducible rfl)
              try simp only [Act.put, qs0, qs1, qs2]
              refine wpAnyH_ready (rs := [27]) (by kernel_rfl) (by simp) ?_
              refine AllReadyH.cons (by simp only [qg0, qg1, qg2]; rfl) (fun K hK => ?_) AllReadyH.nil
              go_simp
              refine (g_gen hHeld).mono ?_
              rintro e w4 ⟨rfl, hI4⟩
              refine hK.out _ _ ?_ (fun hHeld => ?_)
              · exact hI4
              clear hK K
              try simp only [Act.put, qs0, qs1, qs2]
              refine wpAnyH_take (i := 28) (v := ?_) (by simp only [qg0, qg1, qg2]; rfl) (by kernel_rfl) (by kernel_rfl) (by kernel_rfl) (by exact fun _ _ _ h => h) (Or.inl ⟨by rfl, ?_⟩) (by assumption) ?_; rotate_left; focus (intro w' hSw; (try dsimp only at hSw); go_simp; all_goals with_reducible rfl)
              try simp only [Act.put, qs0, qs1, qs2]
              refine wpAnyH_take (i := 29) (v := ?_) (by simp only [qg0, qg1, qg2]; rfl) (by kernel_rfl) (by kernel_rfl) (by kernel_rfl) (by exact fun _ _ _ h => h) (Or.inl ⟨by rfl, ?_⟩) (by assumption) ?_; rotate_left; focus (intro w' hSw; (try dsimp only at hSw); go_simp; all_goals with_reducible rfl)
              try simp only [Act.put, qs0, qs1, qs2]
              refine wpAnyH_take (i := 30) (v := ?_) (by simp only [qg0, qg1, qg2]; rfl) (by kernel_rfl) (by kernel_rfl) (by kernel_rfl) (by exact fun _ _ _ h => h) (Or.inl ⟨by rfl, ?_⟩) (by assumption) ?_; rotate_left; focus (intro w' hSw; (try dsimp only at hSw); go_simp; all_goals with_reducible rfl)
              try simp only [Act.put, qs0, qs1, qs2]
              refine wpAnyH_ready (rs := [31]) (by kernel_rfl) (by simp) ?_
              refine AllReadyH.cons (by simp only [qg0, qg1, qg2]; rfl) (fun K hK => ?_) AllReadyH.nil
              go_simp
              refine (g_size hHeld).mono ?_
              rintro e w5 ⟨rfl, hI5⟩
              refine hK.out _ _ ?_ (fun hHeld => ?_)
              · exact hI5
              clear hK K
              try simp only [Act.put, qs0, qs1, qs2]
              refine wpAnyH_take (i := 32) (v := ?_) (by simp only [qg0, qg1, qg2]; rfl) (by kernel_rfl) (by kernel_rfl) (by kernel_rfl) (by exact fun _ _ _ h => h) (Or.inl ⟨by rfl, ?_⟩) (by assumption) ?_; rotate_left; focus (intro w' hSw; (try dsimp only at hSw); go_simp; all_goals with_reducible rfl)
              try simp only [Act.put, qs0, qs1, qs2]
              refine wpAnyH_take (i := 33) (v := ?_) (by simp only [qg0, qg1, qg2]; rfl) (by kernel_rfl) (by kernel_rfl) (by kernel_rfl) (by exact fun _ _ _ h => h) (Or.inl ⟨by rfl, ?_⟩) (by assumption) ?_; rotate_left; focus (intro w' hSw; (try dsimp only at hSw); go_simp; all_goals with_reducible rfl)
              try simp only [Act.put, qs0, qs1, qs2]
              refine wpAnyH_take (i := 34) (v := ?_) (by simp only [qg0, qg1, qg2]; rfl) (by kernel_rfl) (by kernel_rfl) (by kernel_rfl) (by exact fun _ _ _ h => h) (Or.inl ⟨by rfl, ?_⟩) (by assumption) ?_; rotate_left; focus (intro w' hSw; (try dsimp only at hSw); go_simp; all_goals with_reducible rfl)
              try simp only [Act.put, qs0, qs1, qs2]
              refine wpAnyH_take (i := 35) (v := ?_) (by simp only [qg0, qg1, qg2]; rfl) (by kernel_rfl) (by kernel_rfl) (by kernel_rfl) (by exact fun _ _ _ h => h) (Or.inl ⟨by rfl, ?_⟩) (by assumption) ?_; rotate_left; focus (intro w' hSw; (try dsimp only at hSw); go_simp; all_goals with_reducible rfl)
              try simp only [Act.put, qs0, qs1, qs2]
              refine wpAnyH_done (by kernel_rfl) ?_ _
              have HF := Lib.hid hHeld
              clear hHeld HG HS
              go_wp2_with fail
              go_roundg (gk - 1)
              case measure => have := HGK.out; omega
              case rel => exact ⟨k + 1, by omega, by go_num, ⟨by have := HGK.out; omega⟩, ⟨false, gl, gm, rfl, rfl, HF.out.o.noAct⟩⟩
            | true =>
              rw [show ptrIf true gm = .pointer (some ⟨gm, 0, none⟩) from rfl]
              go_wp2_with fail
              refine (p_renew2 B c f3 HRS.out hbc HZ.out HAO.out (Nat.le_trans H50.out (by decide)) HO3.out hroom.2).mono ?_
              clear k0 k1 k2 k3 k4 n0 n1 n2 n3 n4
              rintro e w8 ⟨code8, rfl, hM⟩
              have HM := Lib.hid hM
              obtain ⟨n0, n1, n2, n3, n4⟩ := hM.cells
              clear hM HZ
              go_wp2_with fail
              refine (r_renew2 B c f3 HRS.out HM.out HAO.out (Nat.le_trans H50.out (by decide)) HO3.out hroom.2).mono ?_
              clear n0 n1 n2 n3 n4
              rintro e w9 ⟨rfl, hO⟩
              have HX := Lib.hid hO
              clear hO HM
              go_wp2_with fail
              obtain ⟨ge, hge⟩ := HX.out.gOf
              have HG := Lib.hid hge
              have hger := hge.rng
              have HS := Lib.hid (fun (W : World) (h : OpenG (ZA wo.heap.size (actObj 1 f1 f2 (.slice B f3.length c) (.slice D f4.length d))) w W g gr room true gl gm ge) => g_same h hroom.2)
              clear hge HX
              refine wp_region_held_drew (S := fun w' => OpenG (ZA wo.heap.size (actObj 1 f1 f2 (.slice B f3.length c) (.slice D f4.length d))) w w' g gr room true gl gm ge ∧ w'.cell? ⟨gm, 2, none⟩ = some (.int .u64 ge)) (by kernel_rfl) ?_ (fun hHeld => ?_)
              · exact ⟨HG.out.drew, HG.out.drew.c2⟩
              refine wpAnyH_take (i := 0) (v := ?_) (by simp only [qg0, qg1, qg2]; rfl) (by kernel_rfl) (by kernel_rfl) (by kernel_rfl) (by exact fun _ _ _ h => h) (Or.inl ⟨by rfl, ?_⟩) (by assumption) ?_; rotate_left; focus (intro w' hSw; (try dsimp only at hSw); go_simp; all_goals with_reducible rfl)
              try simp only [Act.put, qs0, qs1, qs2]
              refine wpAnyH_take (i := 1) (v := ?_) (by simp only [qg0, qg1, qg2]; rfl) (by kernel_rfl) (by kernel_rfl) (by kernel_rfl) (by exact fun _ _ _ h => h) (Or.inl ⟨by rfl, ?_⟩) (by assumption) ?_; rotate_left; focus (intro w' hSw; (try dsimp only at hSw); go_simp; all_goals with_reducible rfl)
              try simp only [Act.put, qs0, qs1, qs2]
              refine wpAnyH_take (i := 2) (v := ?_) (by simp only [qg0, qg1, qg2]; rfl) (by kernel_rfl) (by kernel_rfl) (by kernel_rfl) (by exact fun _ _ _ h => h) (Or.inl ⟨by rfl, ?_⟩) (by assumption) ?_; rotate_left; focus (intro w' hSw; (try dsimp only at hSw); go_simp; all_goals with_reducible rfl)
              try simp only [Act.put, qs0, qs1, qs2]
              refine wpAnyH_take (i := 3) (v := ?_) (by simp only [qg0, qg1, qg2]; rfl) (by kernel_rfl) (by kernel_rfl) (by kernel_rfl) (by exact fun _ _ _ h => h) (Or.inl ⟨by rfl, ?_⟩) (by assumption) ?_; rotate_left; focus (intro w' hSw; (try dsimp only at hSw); go_simp; all_goals with_reducible rfl)
              try simp only [Act.put, qs0, qs1, qs2]
              refine wpAnyH_take (i := 4) (v := ?_) (by simp only [qg0, qg1, qg2]; rfl) (by kernel_rfl) (by kernel_rfl) (by kernel_rfl) (by exact fun _ _ _ h => h) (Or.inl ⟨by rfl, ?_⟩) (by assumption) ?_; rotate_left; focus (intro w' hSw; (try dsimp only at hSw); go_simp; all_goals with_reducible rfl)
              try simp only [Act.put, qs0, qs1, qs2]
              refine wpAnyH_take (i := 5) (v := ?_) (by simp only [qg0, qg1, qg2]; rfl) (by kernel_rfl) (by kernel_rfl) (by kernel_rfl) (by exact fun _ _ _ h => h) (Or.inl ⟨by rfl, ?_⟩) (by assumption) ?_; rotate_left; focus (intro w' hSw; (try dsimp only at hSw); go_simp; all_goals with_reducible rfl)
              try simp only [Act.put, qs0, qs1, qs2]
              refine wpAnyH_ready (rs := [6]) (by kernel_rfl) (by simp) ?_
              refine AllReadyH.cons (by simp only [qg0, qg1, qg2]; rfl) (fun K hK => ?_) AllReadyH.nil
              go_simp
              refine (HS.out _ hHeld.1).mono ?_
              rintro e w3 ⟨rfl, hI3⟩
              refine hK.out _ _ ?_ (fun hHeld => ?_)
              · exact ⟨hI3, hI3.c2⟩
              clear hK K
              try simp only [Act.put, qs0, qs1, qs2]
              refine wpAnyH_take (i := 7) (v := ?_) (by simp only [qg0, qg1, qg2]; rfl) (by kernel_rfl) (by kernel_rfl) (by kernel_rfl) (by exact fun _ _ _ h => h) (Or.inl ⟨by rfl, ?_⟩) (by assumption) ?_; rotate_left; focus (intro w' hSw; (try dsimp only at hSw); go_simp; all_goals with_reducible rfl)
              try simp only [Act.put, qs0, qs1, qs2]
              refine wpAnyH_take (i := 8) (v := ?_) (by simp only [qg0, qg1, qg2]; rfl) (by kernel_rfl) (by kernel_rfl) (by kernel_rfl) (by exact fun _ _ _ h => h) (Or.inl ⟨by rfl, ?_⟩) (by assumption) ?_; rotate_left; focus (intro w' hSw; (try dsimp only at hSw); go_simp; all_goals with_reducible rfl)
              try simp only [Act.put, qs0, qs1, qs2]
              refine wpAnyH_take (i := 9) (v := ?_) (by simp only [qg0, qg1, qg2]; rfl) (by kernel_rfl) (by kernel_rfl) (by kernel_rfl) (by exact fun _ _ _ h => h) (Or.inl ⟨by rfl, ?_⟩) (by assumption) ?_; rotate_left; focus (intro w' hSw; (try dsimp only at hSw); go_simp; all_goals with_reducible rfl)
              try simp only [Act.put, qs0, qs1, qs2]
              refine wpAnyH_take (i := 10) (v := ?_) (by simp only [qg0, qg1, qg2]; rfl) (by kernel_rfl) (by kernel_rfl) (by kernel_rfl) (by exact fun _ _ _ h => h) (Or.inl ⟨by rfl, ?_⟩) (by assumption) ?_; rotate_left; focus (intro w' hSw; (try dsimp only at hSw); go_simp; all_goals with_reducible rfl)
              try simp only [Act.put, qs0, qs1, qs2]
              refine wpAnyH_take (i := 11) (v := ?_) (by simp only [qg0, qg1, qg2]; rfl) (by kernel_rfl) (by kernel_rfl) (by kernel_rfl) (by exact fun _ _ _ h => h) (Or.inl ⟨by rfl, ?_⟩) (by assumption) ?_; rotate_left; focus (intro w' hSw; (try dsimp only at hSw); go_simp; all_goals with_reducible rfl)
              try simp only [Act.put, qs0, qs1, qs2]
              refine wpAnyH_take (i := 12) (v := ?_) (by simp only [qg0, qg1, qg2]; rfl) (by kernel_rfl) (by kernel_rfl) (by kernel_rfl) (by exact fun _ _ _ h => h) (Or.inl ⟨by rfl, ?_⟩) (by assumption) ?_; rotate_left; focus (intro w' hSw; (try dsimp only at hSw); go_simp; all_goals with_reducible rfl)
              try simp only [Act.put, qs0, qs1, qs2]
              refine wpAnyH_take (i := 13) (v := ?_) (by simp only [qg0, qg1, qg2]; rfl) (by kernel_rfl) (by kernel_rfl) (by kernel_rfl) (by exact fun _ _ _ h => h) (Or.inl ⟨by rfl, ?_⟩) (by assumption) ?_; rotate_left; focus (intro w' hSw; (try dsimp only at hSw); go_simp; all_goals with_reducible rfl)
              try simp only [Act.put, qs0, qs1, qs2]
              refine wpAnyH_take (i := 15) (v := ?_) (by simp only [qg0, qg1, qg2]; rfl) (by kernel_rfl) (by kernel_rfl) (by kernel_rfl) (by exact fun _ _ _ h => h) (Or.inl ⟨by rfl, ?_⟩) (by assumption) ?_; rotate_left; focus (intro w' hSw; (try dsimp only at hSw); go_simp; all_goals with_reducible rfl)
              try simp only [Act.put, qs0, qs1, qs2]
              refine wpAnyH_take (i := 16) (v := ?_) (by simp only [qg0, qg1, qg2]; rfl) (by kernel_rfl) (by kernel_rfl) (by kernel_rfl) (by exact fun _ _ _ h => h) (Or.inl ⟨by rfl, ?_⟩) (by assumption) ?_; rotate_left; focus (intro w' hSw; (try dsimp only at hSw); go_simp; all_goals with_reducible rfl)
              try simp only [Act.put, qs0, qs1, qs2]
              refine wpAnyH_take (i := 17) (v := ?_) (by simp only [qg0, qg1, qg2]; rfl) (by kernel_rfl) (by kernel_rfl) (by kernel_rfl) (by exact fun _ _ _ h => h) (Or.inl ⟨by rfl, ?_⟩) (by assumption) ?_; rotate_left; focus (intro w' hSw; (try dsimp only at hSw); go_simp; all_goals with_reducible rfl)
              try simp only [Act.put, qs0, qs1, qs2]
              refine wpAnyH_take (i := 18) (v := ?_) (by simp only [qg0, qg1, qg2]; rfl) (by kernel_rfl) (by kernel_rfl) (by kernel_rfl) (by exact fun _ _ _ h => h) (Or.inl ⟨by rfl, ?_⟩) (by assumption) ?_; rotate_left; focus (intro w' hSw; (try dsimp only at hSw); go_simp; all_goals with_reducible rfl)
              try simp only [Act.put, qs0, qs1, qs2]
              refine wpAnyH_ready (rs := [14]) (by kernel_rfl) (by simp) ?_
              refine AllReadyH.cons (by simp only [qg0, qg1, qg2]; rfl) (fun K hK => ?_) AllReadyH.nil
              go_simp
              refine (g_gen hHeld.1).mono ?_
              rintro e w4 ⟨rfl, hI4⟩
              refine hK.out _ _ ?_ (fun hHeld => ?_)
              · exact ⟨hI4, hI4.c2⟩
              clear hK K
              try simp only [Act.put, qs0, qs1, qs2]
              refine wpAnyH_take (i := 19) (v := ?_) (by simp only [qg0, qg1, qg2]; rfl) (by kernel_rfl) (by kernel_rfl) (by kernel_rfl) (by exact fun _ _ _ h => h) (Or.inl ⟨by rfl, ?_⟩) (by assumption) ?_; rotate_left; focus (intro w' hSw; (try dsimp only at hSw); go_simp; all_goals with_reducible rfl)
              try simp only [Act.put, qs0, qs1, qs2]
              refine wpAnyH_take (i := 20) (v := ?_) (by simp only [qg0, qg1, qg2]; rfl) (by kernel_rfl) (by kernel_rfl) (by kernel_rfl) (by exact fun _ _ _ h => h) (Or.inl ⟨by rfl, ?_⟩) (by assumption) ?_; rotate_left; focus (intro w' hSw; (try dsimp only at hSw); go_simp; all_goals with_reducible rfl)
              try simp only [Act.put, qs0, qs1, qs2]
              refine wpAnyH_take (i := 21) (v := ?_) (by simp only [qg0, qg1, qg2]; rfl) (by kernel_rfl) (by kernel_rfl) (by kernel_rfl) (by exact fun _ _ _ h => h) (Or.inl ⟨by rfl, ?_⟩) (by assumption) ?_; rotate_left; focus (intro w' hSw; (try dsimp only at hSw); go_simp; all_goals with_reducible rfl)
              try simp only [Act.put, qs0, qs1, qs2]
              refine wpAnyH_take (i := 22) (v := ?_) (by simp only [qg0, qg1, qg2]; rfl) (by kernel_rfl) (by kernel_rfl) (by kernel_rfl) (by exact fun _ _ _ h => h) (Or.inl ⟨by rfl, ?_⟩) (by assumption) ?_; rotate_left; focus (intro w' hSw; (try dsimp only at hSw); go_simp; all_goals with_reducible rfl)
              try simp only [Act.put, qs0, qs1, qs2]
              refine wpAnyH_take (i := 23) (v := ?_) (by simp only [qg0, qg1, qg2]; rfl) (by kernel_rfl) (by kernel_rfl) (by kernel_rfl) (by exact fun _ _ _ h => h) (Or.inl ⟨by rfl, ?_⟩) (by assumption) ?_; rotate_left; focus (intro w' hSw; (try dsimp only at hSw); go_simp; all_goals with_reducible rfl)
              try simp only [Act.put, qs0, qs1, qs2]
              refine wpAnyH_take (i := 24) (v := ?_) (by simp only [qg0, qg1, qg2]; rfl) (by kernel_rfl) (by kernel_rfl) (by kernel_rfl) (by exact fun _ _ _ h => h) (Or.inl ⟨by rfl, ?_⟩) (by assumption) ?_; rotate_left; focus (intro w' hSw; (try dsimp only at hSw); go_simp; all_goals with_reducible rfl)
              try simp only [Act.put, qs0, qs1, qs2]
              refine wpAnyH_take (i := 25) (v := ?_) (by simp only [qg0, qg1, qg2]; rfl) (by kernel_rfl) (by kernel_rfl) (by kernel_rfl) (by exact fun _ _ _ h => h) (Or.inl ⟨by rfl, ?_⟩) (by assumption) ?_; rotate_left; focus (intro w' hSw; (try dsimp only at hSw); go_simp; all_goals with_reducible rfl)
              try simp only [Act.put, qs0, qs1, qs2]
              refine wpAnyH_take (i := 26) (v := undef) (by simp only [qg0, qg1, qg2]; rfl) (by kernel_rfl) (by kernel_rfl) (by kernel_rfl) (by exact fun _ _ _ h => h) (Or.inr ⟨by rfl, rfl⟩) (by assumption) ?_
              try simp only [Act.put, qs0, qs1, qs2]
              refine wpAnyH_take (i := 27) (v := undef) (by simp only [qg0, qg1, qg2]; rfl) (by kernel_rfl) (by kernel_rfl) (by kernel_rfl) (by exact fun _ _ _ h => h) (Or.inr ⟨by rfl, rfl⟩) (by assumption) ?_
              try simp only [Act.put, qs0, qs1, qs2]
              refine wpAnyH_take (i := 28) (v := undef) (by simp only [qg0, qg1, qg2]; rfl) (by kernel_rfl) (by kernel_rfl) (by kernel_rfl) (by exact fun _ _ _ h => h) (Or.inr ⟨by rfl, rfl⟩) (by assumption) ?_
              try simp only [Act.put, qs0, qs1, qs2]
              refine wpAnyH_take (i := 29) (v := undef) (by simp only [qg0, qg1, qg2]; rfl) (by kernel_rfl) (by kernel_rfl) (by kernel_rfl) (by exact fun _ _ _ h => h) (Or.inr ⟨by rfl, rfl⟩) (by assumption) ?_
              try simp only [Act.put, qs0, qs1, qs2]
              refine wpAnyH_take (i := 30) (v := undef) (by simp only [qg0, qg1, qg2]; rfl) (by kernel_rfl) (by kernel_rfl) (by kernel_rfl) (by exact fun _ _ _ h => h) (Or.inr ⟨by rfl, rfl⟩) (by assumption) ?_
              try simp only [Act.put, qs0, qs1, qs2]
              refine wpAnyH_take (i := 31) (v := undef) (by simp only [qg0, qg1, qg2]; rfl) (by kernel_rfl) (by kernel_rfl) (by kernel_rfl) (by exact fun _ _ _ h => h) (Or.inr ⟨by rfl, rfl⟩) (by assumption) ?_
              try simp only [Act.put, qs0, qs1, qs2]
              refine wpAnyH_take (i := 32) (v := undef) (by simp only [qg0, qg1, qg2]; rfl) (by kernel_rfl) (by kernel_rfl) (by kernel_rfl) (by exact fun _ _ _ h => h) (Or.inr ⟨by rfl, rfl⟩) (by assumption) ?_
              try simp only [Act.put, qs0, qs1, qs2]
              refine wpAnyH_take (i := 33) (v := undef) (by simp only [qg0, qg1, qg2]; rfl) (by kernel_rfl) (by kernel_rfl) (by kernel_rfl) (by exact fun _ _ _ h => h) (Or.inr ⟨by rfl, rfl⟩) (by assumption) ?_
              try simp only [Act.put, qs0, qs1, qs2]
              refine wpAnyH_take (i := 34) (v := ?_) (by simp only [qg0, qg1, qg2]; rfl) (by kernel_rfl) (by kernel_rfl) (by kernel_rfl) (by exact fun _ _ _ h => h) (Or.inl ⟨by rfl, ?_⟩) (by assumption) ?_; rotate_left; focus (intro w' hSw; (try dsimp only at hSw); go_simp; all_goals with_reducible rfl)
              try simp only [Act.put, qs0, qs1, qs2]
              refine wpAnyH_take (i := 35) (v := ?_) (by simp only [qg0, qg1, qg2]; rfl) (by kernel_rfl) (by kernel_rfl) (by kernel_rfl) (by exact fun _ _ _ h => h) (Or.inl ⟨by rfl, ?_⟩) (by assumption) ?_; rotate_left; focus (intro w' hSw; (try dsimp only at hSw); go_simp; all_goals with_reducible rfl)
              try simp only [Act.put, qs0, qs1, qs2]
              refine wpAnyH_done (by kernel_rfl) ?_ _
              have HF := Lib.hid hHeld.1
              clear hHeld HG HS
              go_wp2_with fail
              go_roundg (gk - 1)
              case measure => have := HGK.out; omega
              case rel => exact ⟨k + 1, by omega, by go_num, ⟨by have := HGK.out; omega⟩, ⟨true, gl, gm, rfl, rfl, HF.out.o.noAct⟩⟩
        · as_aux_lemma =>
            subst hw
            cases u with
            | false =>
              rw [show ptrIf false gm = .pointer none from rfl]
              go_wp2_with fail
              refine (p_fuel2 f1 HZ.out).mono ?_
              clear k0 k1 k2 k3 k4 n0 n1 n2 n3 n4
              rintro e w8 ⟨rfl, hM⟩
              have HM := Lib.hid hM
              obtain ⟨n0, n1, n2, n3, n4⟩ := hM.cells
              obtain ⟨lq, hlq, hfz⟩ := hM.left
              clear hM HZ
              go_wp2_with fail
              have HX := Lib.hid (r_fuel2 (x := max f1 (-1)) HM.out HAO.out (by omega) rfl)
              clear HM n0 n1 n2 n3 n4 hlq hfz
              obtain ⟨ge, hge⟩ := HX.out.gOf
              have HG := Lib.hid hge
              have hger := hge.rng
              have HS := Lib.hid (fun (W : World) (h : OpenG (ZA wo.heap.size (actObj 2 f1 f2 (.slice B f3.length c) (.slice D f4.length d))) w W g gr room false gl gm ge) => g_same h hroom.2)
              clear hge HX
              refine wp_region_held_drew (S := fun w' => OpenG (ZA wo.heap.size (actObj 2 f1 f2 (.slice B f3.length c) (.slice D f4.length d))) w w' g gr room false gl gm ge) (by kernel_rfl) ?_ (fun hHeld => ?_)
              · exact HG.out.drew
              refine wpAnyH_take (i := 0) (v := ?_) (by simp only [qg0, qg1, qg2]; rfl) (by kernel_rfl) (by kernel_rfl) (by kernel_rfl) (by exact fun _ _ _ h => h) (Or.inl ⟨by rfl, ?_⟩) (by assumption) ?_; rotate_left; focus (intro w' hSw; (try dsimp only at hSw); go_simp; all_goals with_reducible rfl)
              try simp only [Act.put, qs0, qs1, qs2]
              refine wpAnyH_take (i := 1) (v := ?_) (by simp only [qg0, qg1, qg2]; rfl) (by kernel_rfl) (by kernel_rfl) (by kernel_rfl) (by exact fun _ _ _ h => h) (Or.inl ⟨by rfl, ?_⟩) (by assumption) ?_; rotate_left; focus (intro w' hSw; (try dsimp only at hSw); go_simp; all_goals with_reducible rfl)
              try simp only [Act.put, qs0, qs1, qs2]
              refine wpAnyH_take (i := 2) (v := ?_) (by simp only [qg0, qg1, qg2]; rfl) (by kernel_rfl) (by kernel_rfl) (by kernel_rfl) (by exact fun _ _ _ h => h) (Or.inl ⟨by rfl, ?_⟩) (by assumption) ?_; rotate_left; focus (intro w' hSw; (try dsimp only at hSw); go_simp; all_goals with_reducible rfl)
              try simp only [Act.put, qs0, qs1, qs2]
              refine wpAnyH_take (i := 3) (v := ?_) (by simp only [qg0, qg1, qg2]; rfl) (by kernel_rfl) (by kernel_rfl) (by kernel_rfl) (by exact fun _ _ _ h => h) (Or.inl ⟨by rfl, ?_⟩) (by assumption) ?_; rotate_left; focus (intro w' hSw; (try dsimp only at hSw); go_simp; all_goals with_reducible rfl)
              try simp only [Act.put, qs0, qs1, qs2]
              refine wpAnyH_take (i := 4) (v := ?_) (by simp only [qg0, qg1, qg2]; rfl) (by kernel_rfl) (by kernel_rfl) (by kernel_rfl) (by exact fun _ _ _ h => h) (Or.inl ⟨by rfl, ?_⟩) (by assumption) ?_; rotate_left; focus (intro w' hSw; (try dsimp only at hSw); go_simp; all_goals with_reducible rfl)
              try simp only [Act.put, qs0, qs1, qs2]
              refine wpAnyH_take (i := 5) (v := ?_) (by simp only [qg0, qg1, qg2]; rfl) (by kernel_rfl) (by kernel_rfl) (by kernel_rfl) (by exact fun _ _ _ h => h) (Or.inl ⟨by rfl, ?_⟩) (by assumption) ?_; rotate_left; focus (intro w' hSw; (try dsimp only at hSw); go_simp; all_goals with_reducible rfl)
              try simp only [Act.put, qs0, qs1, qs2]
              refine wpAnyH_ready (rs := [6]) (by kernel_rfl) (by simp) ?_
              refine AllReadyH.cons (by simp only [qg0, qg1, qg2]; rfl) (fun K hK => ?_) AllReadyH.nil
              go_simp
              refine (HS.out _ hHeld).mono ?_
              rintro e w3 ⟨rfl, hI3⟩
              refine hK.out _ _ ?_ (fun hHeld => ?_)
              · exact hI3
              clear hK K
              try simp only [Act.put, qs0, qs1, qs2]
              refine wpAnyH_take (i := 7) (v := ?_) (by simp only [qg0, qg1, qg2]; rfl) (by kernel_rfl) (by kernel_rfl) (by kernel_rfl) (by exact fun _ _ _ h => h) (Or.inl ⟨by rfl, ?_⟩) (by assumption) ?_; rotate_left; focus (intro w' hSw; (try dsimp only at hSw); go_simp; all_goals with_reducible rfl)
              try simp only [Act.put, qs0, qs1, qs2]
              refine wpAnyH_take (i := 8) (v := ?_) (by simp only [qg0, qg1, qg2]; rfl) (by kernel_rfl) (by kernel_rfl) (by kernel_rfl) (by exact fun _ _ _ h => h) (Or.inl ⟨by rfl, ?_⟩) (by assumption) ?_; rotate_left; focus (intro w' hSw; (try dsimp only at hSw); go_simp; all_goals with_reducible rfl)
              try simp only [Act.put, qs0, qs1, qs2]
              refine wpAnyH_take (i := 9) (v := ?_) (by simp only [qg0, qg1, qg2]; rfl) (by kernel_rfl) (by kernel_rfl) (by kernel_rfl) (by exact fun _ _ _ h => h) (Or.inl ⟨by rfl, ?_⟩) (by assumption) ?_; rotate_left; focus (intro w' hSw; (try dsimp only at hSw); go_simp; all_goals with_reducible rfl)
              try simp only [Act.put, qs0, qs1, qs2]
              refine wpAnyH_take (i := 10) (v := ?_) (by simp only [qg0, qg1, qg2]; rfl) (by kernel_rfl) (by kernel_rfl) (by kernel_rfl) (by exact fun _ _ _ h => h) (Or.inl ⟨by rfl, ?_⟩) (by assumption) ?_; rotate_left; focus (intro w' hSw; (try dsimp only at hSw); go_simp; all_goals with_reducible rfl)
              try simp only [Act.put, qs0, qs1, qs2]
              refine wpAnyH_take (i := 11) (v := ?_) (by simp only [qg0, qg1, qg2]; rfl) (by kernel_rfl) (by kernel_rfl) (by kernel_rfl) (by exact fun _ _ _ h => h) (Or.inl ⟨by rfl, ?_⟩) (by assumption) ?_; rotate_left; focus (intro w' hSw; (try dsimp only at hSw); go_simp; all_goals with_reducible rfl)
              try simp only [Act.put, qs0, qs1, qs2]
              refine wpAnyH_take (i := 12) (v := ?_) (by simp only [qg0, qg1, qg2]; rfl) (by kernel_rfl) (by kernel_rfl) (by kernel_rfl) (by exact fun _ _ _ h => h) (Or.inl ⟨by rfl, ?_⟩) (by assumption) ?_; rotate_left; focus (intro w' hSw; (try dsimp only at hSw); go_simp; all_goals with_reducible rfl)
              try simp only [Act.put, qs0, qs1, qs2]
              refine wpAnyH_take (i := 13) (v := undef) (by simp only [qg0, qg1, qg2]; rfl) (by kernel_rfl) (by kernel_rfl) (by kernel_rfl) (by exact fun _ _ _ h => h) (Or.inr ⟨by rfl, rfl⟩) (by assumption) ?_
              try simp only [Act.put, qs0, qs1, qs2]
              refine wpAnyH_take (i := 14) (v := undef) (by simp only [qg0, qg1, qg2]; rfl) (by kernel_rfl) (by kernel_rfl) (by kernel_rfl) (by exact fun _ _ _ h => h) (Or.inr ⟨by rfl, rfl⟩) (by assumption) ?_
              try simp only [Act.put, qs0, qs1, qs2]
              refine wpAnyH_take (i := 15) (v := undef) (by simp only [qg0, qg1, qg2]; rfl) (by kernel_rfl) (by kernel_rfl) (by kernel_rfl) (by exact fun _ _ _ h => h) (Or.inr ⟨by rfl, rfl⟩) (by assumption) ?_
              try simp only [Act.put, qs0, qs1, qs2]
              refine wpAnyH_take (i := 16) (v := undef) (by simp only [qg0, qg1, qg2]; rfl) (by kernel_rfl) (by kernel_rfl) (by kernel_rfl) (by exact fun _ _ _ h => h) (Or.inr ⟨by rfl, rfl⟩) (by assumption) ?_
              try simp only [Act.put, qs0, qs1, qs2]
              refine wpAnyH_take (i := 17) (v := undef) (by simp only [qg0, qg1, qg2]; rfl) (by kernel_rfl) (by kernel_rfl) (by kernel_rfl) (by exact fun _ _ _ h => h) (Or.inr ⟨by rfl, rfl⟩) (by assumption) ?_
              try simp only [Act.put, qs0, qs1, qs2]
              refine wpAnyH_take (i := 18) (v := undef) (by simp only [qg0, qg1, qg2]; rfl) (by kernel_rfl) (by kernel_rfl) (by kernel_rfl) (by exact fun _ _ _ h => h) (Or.inr ⟨by rfl, rfl⟩) (by assumption) ?_
              try simp only [Act.put, qs0, qs1, qs2]
              refine wpAnyH_take (i := 19) (v := undef) (by simp only [qg0, qg1, qg2]; rfl) (by kernel_rfl) (by kernel_rfl) (by kernel_rfl) (by exact fun _ _ _ h => h) (Or.inr ⟨by rfl, rfl⟩) (by assumption) ?_
              try simp only [Act.put, qs0, qs1, qs2]
              refine wpAnyH_take (i := 20) (v := ?_) (by simp only [qg0, qg1, qg2]; rfl) (by kernel_rfl) (by kernel_rfl) (by kernel_rfl) (by exact fun _ _ _ h => h) (Or.inl ⟨by rfl, ?_⟩) (by assumption) ?_; rotate_left; focus (intro w' hSw; (try dsimp only at hSw); go_simp; all_goals with_reducible rfl)
              try simp only [Act.put, qs0, qs1, qs2]
              refine wpAnyH_take (i := 21) (v := ?_) (by simp only [qg0, qg1, qg2]; rfl) (by kernel_rfl) (by kernel_rfl) (by kernel_rfl) (by exact fun _ _ _ h => h) (Or.inl ⟨by rfl, ?_⟩) (by assumption) ?_; rotate_left; focus (intro w' hSw; (try dsimp only at hSw); go_simp; all_goals with_reducible rfl)
              try simp only [Act.put, qs0, qs1, qs2]
              refine wpAnyH_take (i := 22) (v := ?_) (by simp only [qg0, qg1, qg2]; rfl) (by kernel_rfl) (by kernel_rfl) (by kernel_rfl) (by exact fun _ _ _ h => h) (Or.inl ⟨by rfl, ?_⟩) (by assumption) ?_; rotate_left; focus (intro w' hSw; (try dsimp only at hSw); go_simp; all_goals with_reducible rfl)
              try simp only [Act.put, qs0, qs1, qs2]
              refine wpAnyH_take (i := 23) (v := ?_) (by simp only [qg0, qg1, qg2]; rfl) (by kernel_rfl) (by kernel_rfl) (by kernel_rfl) (by exact fun _ _ _ h => h) (Or.inl ⟨by rfl, ?_⟩) (by assumption) ?_; rotate_left; focus (intro w' hSw; (try dsimp only at hSw); go_simp; all_goals with_reducible rfl)
              try simp only [Act.put, qs0, qs1, qs2]
              refine wpAnyH_take (i := 24) (v := ?_) (by simp only [qg0, qg1, qg2]; rfl) (by kernel_rfl) (by kernel_rfl) (by kernel_rfl) (by exact fun _ _ _ h => h) (Or.inl ⟨by rfl, ?_⟩) (by assumption) ?_; rotate_left; focus (intro w' hSw; (try dsimp only at hSw); go_simp; all_goals with_reducible rfl)
              try simp only [Act.put, qs0, qs1, qs2]
              refine wpAnyH_take (i := 25) (v := ?_) (by simp only [qg0, qg1, qg2]; rfl) (by kernel_rfl) (by kernel_rfl) (by kernel_rfl) (by exact fun _ _ _ h => h) (Or.inl ⟨by rfl, ?_⟩) (by assumption) ?_; rotate_left; focus (intro w' hSw; (try dsimp only at hSw); go_simp; all_goals with_reducible rfl)
              try simp only [Act.put, qs0, qs1, qs2]
              refine wpAnyH_take (i := 26) (v := ?_) (by simp only [qg0, qg1, qg2]; rfl) (by kernel_rfl) (by kernel_rfl) (by kernel_rfl) (by exact fun _ _ _ h => h) (Or.inl ⟨by rfl, ?_⟩) (by assumption) ?_; rotate_left; focus (intro w' hSw; (try dsimp only at hSw); go_simp; all_goals with_reducible rfl)
              try simp only [Act.put, qs0, qs1, qs2]
              refine wpAnyH_ready (rs := [27]) (by kernel_rfl) (by simp) ?_
              refine AllReadyH.cons (by simp only [qg0, qg1, qg2]; rfl) (fun K hK => ?_) AllReadyH.nil
              go_simp
              refine (g_gen hHeld).mono ?_
              rintro e w4 ⟨rfl, hI4⟩
              refine hK.out _ _ ?_ (fun hHeld => ?_)
              · exact hI4
              clear hK K
              try simp only [Act.put, qs0, qs1, qs2]
              refine wpAnyH_take (i := 28) (v := ?_) (by simp only [qg0, qg1, qg2]; rfl) (by kernel_rfl) (by kernel_rfl) (by kernel_rfl) (by exact fun _ _ _ h => h) (Or.inl ⟨by rfl, ?_⟩) (by assumption) ?_; rotate_left; focus (intro w' hSw; (try dsimp only at hSw); go_simp; all_goals with_reducible rfl)
              try simp only [Act.put, qs0, qs1, qs2]
              refine wpAnyH_take (i := 29) (v := ?_) (by simp only [qg0, qg1, qg2]; rfl) (by kernel_rfl) (by kernel_rfl) (by kernel_rfl) (by exact fun _ _ _ h => h) (Or.inl ⟨by rfl, ?_⟩) (by assumption) ?_; rotate_left; focus (intro w' hSw; (try dsimp only at hSw); go_simp; all_goals with_reducible rfl)
              try simp only [Act.put, qs0, qs1, qs2]
              refine wpAnyH_take (i := 30) (v := ?_) (by simp only [qg0, qg1, qg2]; rfl) (by kernel_rfl) (by kernel_rfl) (by kernel_rfl) (by exact fun _ _ _ h => h) (Or.inl ⟨by rfl, ?_⟩) (by assumption) ?_; rotate_left; focus (intro w' hSw; (try dsimp only at hSw); go_simp; all_goals with_reducible rfl)
              try simp only [Act.put, qs0, qs1, qs2]
              refine wpAnyH_ready (rs := [31]) (by kernel_rfl) (by simp) ?_
              refine AllReadyH.cons (by simp only [qg0, qg1, qg2]; rfl) (fun K hK => ?_) AllReadyH.nil
              go_simp
              refine (g_size hHeld).mono ?_
              rintro e w5 ⟨rfl, hI5⟩
              refine hK.out _ _ ?_ (fun hHeld => ?_)
              · exact hI5
              clear hK K
              try simp only [Act.put, qs0, qs1, qs2]
              refine wpAnyH_take (i := 32) (v := ?_) (by simp only [qg0, qg1, qg2]; rfl) (by kernel_rfl) (by kernel_rfl) (by kernel_rfl) (by exact fun _ _ _ h => h) (Or.inl ⟨by rfl, ?_⟩) (by assumption) ?_; rotate_left; focus (intro w' hSw; (try dsimp only at hSw); go_simp; all_goals with_reducible rfl)
              try simp only [Act.put, qs0, qs1, qs2]
              refine wpAnyH_take (i := 33) (v := ?_) (by simp only [qg0, qg1, qg2]; rfl) (by kernel_rfl) (by kernel_rfl) (by kernel_rfl) (by exact fun _ _ _ h => h) (Or.inl ⟨by rfl, ?_⟩) (by assumption) ?_; rotate_left; focus (intro w' hSw; (try dsimp only at hSw); go_simp; all_goals with_reducible rfl)
              try simp only [Act.put, qs0, qs1, qs2]
              refine wpAnyH_take (i := 34) (v := ?_) (by simp only [qg0, qg1, qg2]; rfl) (by kernel_rfl) (by kernel_rfl) (by kernel_rfl) (by exact fun _ _ _ h => h) (Or.inl ⟨by rfl, ?_⟩) (by assumption) ?_; rotate_left; focus (intro w' hSw; (try dsimp only at hSw); go_simp; all_goals with_reducible rfl)
              try simp only [Act.put, qs0, qs1, qs2]
              refine wpAnyH_take (i := 35) (v := ?_) (by simp only [qg0, qg1, qg2]; rfl) (by kernel_rfl) (by kernel_rfl) (by kernel_rfl) (by exact fun _ _ _ h => h) (Or.inl ⟨by rfl, ?_⟩) (by assumption) ?_; rotate_left; focus (intro w' hSw; (try dsimp only at hSw); go_simp; all_goals with_reducible rfl)
              try simp only [Act.put, qs0, qs1, qs2]
              refine wpAnyH_done (by kernel_rfl) ?_ _
              have HF := Lib.hid hHeld
              clear hHeld HG HS
              go_wp2_with fail
              go_roundg (gk - 1)
              case measure => have := HGK.out; omega
              case rel => exact ⟨k + 1, by omega, by go_num, ⟨by have := HGK.out; omega⟩, ⟨false, gl, gm, rfl, rfl, HF.out.o.noAct⟩⟩
            | true =>
              rw [show ptrIf true gm = .pointer (some ⟨gm, 0, none⟩) from rfl]
              go_wp2_with fail
              refine (p_fuel2 f1 HZ.out).mono ?_
              clear k0 k1 k2 k3 k4 n0 n1 n2 n3 n4
              rintro e w8 ⟨rfl, hM⟩
              have HM := Lib.hid hM
              obtain ⟨n0, n1, n2, n3, n4⟩ := hM.cells
              obtain ⟨lq, hlq, hfz⟩ := hM.left
              clear hM HZ
              go_wp2_with fail
              have HX := Lib.hid (r_fuel2 (x := max f1 (-1)) HM.out HAO.out (by omega) rfl)
              clear HM n0 n1 n2 n3 n4 hlq hfz
              obtain ⟨ge, hge⟩ := HX.out.gOf
              have HG := Lib.hid hge
              have hger := hge.rng
              have HS := Lib.hid (fun (W : World) (h : OpenG (ZA wo.heap.size (actObj 2 f1 f2 (.slice B f3.length c) (.slice D f4.length d))) w W g gr room true gl gm ge) => g_same h hroom.2)
              clear hge HX
              refine wp_region_held_drew (S := fun w' => OpenG (ZA wo.heap.size (actObj 2 f1 f2 (.slice B f3.length c) (.slice D f4.length d))) w w' g gr room true gl gm ge ∧ w'.cell? ⟨gm, 2, none⟩ = some (.int .u64 ge)) (by kernel_rfl) ?_ (fun hHeld => ?_)
              · exact ⟨HG.out.drew, HG.out.drew.c2⟩
              refine wpAnyH_take (i := 0) (v := ?_) (by simp only [qg0, qg1, qg2]; rfl) (by kernel_rfl) (by kernel_rfl) (by kernel_rfl) (by exact fun _ _ _ h => h) (Or.inl ⟨by rfl, ?_⟩) (by assumption) ?_; rotate_left; focus (intro w' hSw; (try dsimp only at hSw); go_simp; all_goals with_reducible rfl)
              try simp only [Act.put, qs0, qs1, qs2]
              refine wpAnyH_take (i := 1) (v := ?_) (by simp only [qg0, qg1, qg2]; rfl) (by kernel_rfl) (by kernel_rfl) (by kernel_rfl) (by exact fun _ _ _ h => h) (Or.inl ⟨by rfl, ?_⟩) (by assumption) ?_; rotate_left; focus (intro w' hSw; (try dsimp only at hSw); go_simp; all_goals with_reducible rfl)
              try simp only [Act.put, qs0, qs1, qs2]
              refine wpAnyH_take (i := 2) (v := ?_) (by simp only [qg0, qg1, qg2]; rfl) (by kernel_rfl) (by kernel_rfl) (by kernel_rfl) (by exact fun _ _ _ h => h) (Or.inl ⟨by rfl, ?_⟩) (by assumption) ?_; rotate_left; focus (intro w' hSw; (try dsimp only at hSw); go_simp; all_goals with_reducible rfl)
              try simp only [Act.put, qs0, qs1, qs2]
              refine wpAnyH_take (i := 3) (v := ?_) (by simp only [qg0, qg1, qg2]; rfl) (by kernel_rfl) (by kernel_rfl) (by kernel_rfl) (by exact fun _ _ _ h => h) (Or.inl ⟨by rfl, ?_⟩) (by assumption) ?_; rotate_left; focus (intro w' hSw; (try dsimp only at hSw); go_simp; all_goals with_reducible rfl)
              try simp only [Act.put, qs0, qs1, qs2]
              refine wpAnyH_take (i := 4) (v := ?_) (by simp only [qg0, qg1, qg2]; rfl) (by kernel_rfl) (by kernel_rfl) (by kernel_rfl) (by exact fun _ _ _ h => h) (Or.inl ⟨by rfl, ?_⟩) (by assumption) ?_; rotate_left; focus (intro w' hSw; (try dsimp only at hSw); go_simp; all_goals with_reducible rfl)
              try simp only [Act.put, qs0, qs1, qs2]
              refine wpAnyH_take (i := 5) (v := ?_) (by simp only [qg0, qg1, qg2]; rfl) (by kernel_rfl) (by kernel_rfl) (by kernel_rfl) (by exact fun _ _ _ h => h) (Or.inl ⟨by rfl, ?_⟩) (by assumption) ?_; rotate_left; focus (intro w' hSw; (try dsimp only at hSw); go_simp; all_goals with_reducible rfl)
              try simp only [Act.put, qs0, qs1, qs2]
              refine wpAnyH_ready (rs := [6]) (by kernel_rfl) (by simp) ?_
              refine AllReadyH.cons (by simp only [qg0, qg1, qg2]; rfl) (fun K hK => ?_) AllReadyH.nil
              go_simp
              refine (HS.out _ hHeld.1).mono ?_
              rintro e w3 ⟨rfl, hI3⟩
              refine hK.out _ _ ?_ (fun hHeld => ?_)
              · exact ⟨hI3, hI3.c2⟩
              clear hK K
              try simp only [Act.put, qs0, qs1, qs2]
              refine wpAnyH_take (i := 7) (v := ?_) (by simp only [qg0, qg1, qg2]; rfl) (by kernel_rfl) (by kernel_rfl) (by kernel_rfl) (by exact fun _ _ _ h => h) (Or.inl ⟨by rfl, ?_⟩) (by assumption) ?_; rotate_left; focus (intro w' hSw; (try dsimp only at hSw); go_simp; all_goals with_reducible rfl)
              try simp only [Act.put, qs0, qs1, qs2]
              refine wpAnyH_take (i := 8) (v := ?_) (by simp only [qg0, qg1, qg2]; rfl) (by kernel_rfl) (by kernel_rfl) (by kernel_rfl) (by exact fun _ _ _ h => h) (Or.inl ⟨by rfl, ?_⟩) (by assumption) ?_; rotate_left; focus (intro w' hSw; (try dsimp only at hSw); go_simp; all_goals with_reducible rfl)
              try simp only [Act.put, qs0, qs1, qs2]
              refine wpAnyH_take (i := 9) (v := ?_) (by simp only [qg0, qg1, qg2]; rfl) (by kernel_rfl) (by kernel_rfl) (by kernel_rfl) (by exact fun _ _ _ h => h) (Or.inl ⟨by rfl, ?_⟩) (by assumption) ?_; rotate_left; focus (intro w' hSw; (try dsimp only at hSw); go_simp; all_goals with_reducible rfl)
              try simp only [Act.put, qs0, qs1, qs2]
              refine wpAnyH_take (i := 10) (v := ?_) (by simp only [qg0, qg1, qg2]; rfl) (by kernel_rfl) (by kernel_rfl) (by kernel_rfl) (by exact fun _ _ _ h => h) (Or.inl ⟨by rfl, ?_⟩) (by assumption) ?_; rotate_left; focus (intro w' hSw; (try dsimp only at hSw); go_simp; all_goals with_reducible rfl)
              try simp only [Act.put, qs0, qs1, qs2]
              refine wpAnyH_take (i := 11) (v := ?_) (by simp only [qg0, qg1, qg2]; rfl) (by kernel_rfl) (by kernel_rfl) (by kernel_rfl) (by exact fun _ _ _ h => h) (Or.inl ⟨by rfl, ?_⟩) (by assumption) ?_; rotate_left; focus (intro w' hSw; (try dsimp only at hSw); go_simp; all_goals with_reducible rfl)
              try simp only [Act.put, qs0, qs1, qs2]
              refine wpAnyH_take (i := 12) (v := ?_) (by simp only [qg0, qg1, qg2]; rfl) (by kernel_rfl) (by kernel_rfl) (by kernel_rfl) (by exact fun _ _ _ h => h) (Or.inl ⟨by rfl, ?_⟩) (by assumption) ?_; rotate_left; focus (intro w' hSw; (try dsimp only at hSw); go_simp; all_goals with_reducible rfl)
              try simp only [Act.put, qs0, qs1, qs2]
              refine wpAnyH_take (i := 13) (v := ?_) (by simp only [qg0, qg1, qg2]; rfl) (by kernel_rfl) (by kernel_rfl) (by kernel_rfl) (by exact fun _ _ _ h => h) (Or.inl ⟨by rfl, ?_⟩) (by assumption) ?_; rotate_left; focus (intro w' hSw; (try dsimp only at hSw); go_simp; all_goals with_reducible rfl)
              try simp only [Act.put, qs0, qs1, qs2]
              refine wpAnyH_take (i := 15) (v := ?_) (by simp only [qg0, qg1, qg2]; rfl) (by kernel_rfl) (by kernel_rfl) (by kernel_rfl) (by exact fun _ _ _ h => h) (Or.inl ⟨by rfl, ?_⟩) (by assumption) ?_; rotate_left; focus (intro w' hSw; (try dsimp only at hSw); go_simp; all_goals with_reducible rfl)
              try simp only [Act.put, qs0, qs1, qs2]
              refine wpAnyH_take (i := 16) (v := ?_) (by simp only [qg0, qg1, qg2]; rfl) (by kernel_rfl) (by kernel_rfl) (by kernel_rfl) (by exact fun _ _ _ h => h) (Or.inl ⟨by rfl, ?_⟩) (by assumption) ?_; rotate_left; focus (intro w' hSw; (try dsimp only at hSw); go_simp; all_goals with_reducible rfl)
              try simp only [Act.put, qs0, qs1, qs2]
              refine wpAnyH_take (i := 17) (v := ?_) (by simp only [qg0, qg1, qg2]; rfl) (by kernel_rfl) (by kernel_rfl) (by kernel_rfl) (by exact fun _ _ _ h => h) (Or.inl ⟨by rfl, ?_⟩) (by assumption) ?_; rotate_left; focus (intro w' hSw; (try dsimp only at hSw); go_simp; all_goals with_reducible rfl)
              try simp only [Act.put, qs0, qs1, qs2]
              refine wpAnyH_take (i := 18) (v := ?_) (by simp only [qg0, qg1, qg2]; rfl) (by kernel_rfl) (by kernel_rfl) (by kernel_rfl) (by exact fun _ _ _ h => h) (Or.inl ⟨by rfl, ?_⟩) (by assumption) ?_; rotate_left; focus (intro w' hSw; (try dsimp only at hSw); go_simp; all_goals with_reducible rfl)
              try simp only [Act.put, qs0, qs1, qs2]
              refine wpAnyH_ready (rs := [14]) (by kernel_rfl) (by simp) ?_
              refine AllReadyH.cons (by simp only [qg0, qg1, qg2]; rfl) (fun K hK => ?_) AllReadyH.nil
              go_simp
              refine (g_gen hHeld.1).mono ?_
              rintro e w4 ⟨rfl, hI4⟩
              refine hK.out _ _ ?_ (fun hHeld => ?_)
              · exact ⟨hI4, hI4.c2⟩
              clear hK K
              try simp only [Act.put, qs0, qs1, qs2]
              refine wpAnyH_take (i := 19) (v := ?_) (by simp only [qg0, qg1, qg2]; rfl) (by kernel_rfl) (by kernel_rfl) (by kernel_rfl) (by exact fun _ _ _ h => h) (Or.inl ⟨by rfl, ?_⟩) (by assumption) ?_; rotate_left; focus (intro w' hSw; (try dsimp only at hSw); go_simp; all_goals with_reducible rfl)
              try simp only [Act.put, qs0, qs1, qs2]
              refine wpAnyH_take (i := 20) (v := ?_) (by simp only [qg0, qg1, qg2]; rfl) (by kernel_rfl) (by kernel_rfl) (by kernel_rfl) (by exact fun _ _ _ h => h) (Or.inl ⟨by rfl, ?_⟩) (by assumption) ?_; rotate_left; focus (intro w' hSw; (try dsimp only at hSw); go_simp; all_goals with_reducible rfl)
              try simp only [Act.put, qs0, qs1, qs2]
              refine wpAnyH_take (i := 21) (v := ?_) (by simp only [qg0, qg1, qg2]; rfl) (by kernel_rfl) (by kernel_rfl) (by kernel_rfl) (by exact fun _ _ _ h => h) (Or.inl ⟨by rfl, ?_⟩) (by assumption) ?_; rotate_left; focus (intro w' hSw; (try dsimp only at hSw); go_simp; all_goals with_reducible rfl)
              try simp only [Act.put, qs0, qs1, qs2]
              refine wpAnyH_take (i := 22) (v := ?_) (by simp only [qg0, qg1, qg2]; rfl) (by kernel_rfl) (by kernel_rfl) (by kernel_rfl) (by exact fun _ _ _ h => h) (Or.inl ⟨by rfl, ?_⟩) (by assumption) ?_; rotate_left; focus (intro w' hSw; (try dsimp only at hSw); go_simp; all_goals with_reducible rfl)
              try simp only [Act.put, qs0, qs1, qs2]
              refine wpAnyH_take (i := 23) (v := ?_) (by simp only [qg0, qg1, qg2]; rfl) (by kernel_rfl) (by kernel_rfl) (by kernel_rfl) (by exact fun _ _ _ h => h) (Or.inl ⟨by rfl, ?_⟩) (by assumption) ?_; rotate_left; focus (intro w' hSw; (try dsimp only at hSw); go_simp; all_goals with_reducible rfl)
              try simp only [Act.put, qs0, qs1, qs2]
              refine wpAnyH_take (i := 24) (v := ?_) (by simp only [qg0, qg1, qg2]; rfl) (by kernel_rfl) (by kernel_rfl) (by kernel_rfl) (by exact fun _ _ _ h => h) (Or.inl ⟨by rfl, ?_⟩) (by assumption) ?_; rotate_left; focus (intro w' hSw; (try dsimp only at hSw); go_simp; all_goals with_reducible rfl)
              try simp only [Act.put, qs0, qs1, qs2]
              refine wpAnyH_take (i := 25) (v := ?_) (by simp only [qg0, qg1, qg2]; rfl) (by kernel_rfl) (by kernel_rfl) (by kernel_rfl) (by exact fun _ _ _ h => h) (Or.inl ⟨by rfl, ?_⟩) (by assumption) ?_; rotate_left; focus (intro w' hSw; (try dsimp only at hSw); go_simp; all_goals with_reducible rfl)
              try simp only [Act.put, qs0, qs1, qs2]
              refine wpAnyH_take (i := 26) (v := undef) (by simp only [qg0, qg1, qg2]; rfl) (by kernel_rfl) (by kernel_rfl) (by kernel_rfl) (by exact fun _ _ _ h => h) (Or.inr ⟨by rfl, rfl⟩) (by assumption) ?_
              try simp only [Act.put, qs0, qs1, qs2]
              refine wpAnyH_take (i := 27) (v := undef) (by simp only [qg0, qg1, qg2]; rfl) (by kernel_rfl) (by kernel_rfl) (by kernel_rfl) (by exact fun _ _ _ h => h) (Or.inr ⟨by rfl, rfl⟩) (by assumption) ?_
              try simp only [Act.put, qs0, qs1, qs2]
              refine wpAnyH_take (i := 28) (v := undef) (by simp only [qg0, qg1, qg2]; rfl) (by kernel_rfl) (by kernel_rfl) (by kernel_rfl) (by exact fun _ _ _ h => h) (Or.inr ⟨by rfl, rfl⟩) (by assumption) ?_
              try simp only [Act.put, qs0, qs1, qs2]
              refine wpAnyH_take (i := 29) (v := undef) (by simp only [qg0, qg1, qg2]; rfl) (by kernel_rfl) (by kernel_rfl) (by kernel_rfl) (by exact fun _ _ _ h => h) (Or.inr ⟨by rfl, rfl⟩) (by assumption) ?_
              try simp only [Act.put, qs0, qs1, qs2]
              refine wpAnyH_take (i := 30) (v := undef) (by simp only [qg0, qg1, qg2]; rfl) (by kernel_rfl) (by kernel_rfl) (by kernel_rfl) (by exact fun _ _ _ h => h) (Or.inr ⟨by rfl, rfl⟩) (by assumption) ?_
              try simp only [Act.put, qs0, qs1, qs2]
              refine wpAnyH_take (i := 31) (v := undef) (by simp only [qg0, qg1, qg2]; rfl) (by kernel_rfl) (by kernel_rfl) (by kernel_rfl) (by exact fun _ _ _ h => h) (Or.inr ⟨by rfl, rfl⟩) (by assumption) ?_
              try simp only [Act.put, qs0, qs1, qs2]
              refine wpAnyH_take (i := 32) (v := undef) (by simp only [qg0, qg1, qg2]; rfl) (by kernel_rfl) (by kernel_rfl) (by kernel_rfl) (by exact fun _ _ _ h => h) (Or.inr ⟨by rfl, rfl⟩) (by assumption) ?_
              try simp only [Act.put, qs0, qs1, qs2]
              refine wpAnyH_take (i := 33) (v := undef) (by simp only [qg0, qg1, qg2]; rfl) (by kernel_rfl) (by kernel_rfl) (by kernel_rfl) (by exact fun _ _ _ h => h) (Or.inr ⟨by rfl, rfl⟩) (by assumption) ?_
              try simp only [Act.put, qs0, qs1, qs2]
              refine wpAnyH_take (i := 34) (v := ?_) (by simp only [qg0, qg1, qg2]; rfl) (by kernel_rfl) (by kernel_rfl) (by kernel_rfl) (by exact fun _ _ _ h => h) (Or.inl ⟨by rfl, ?_⟩) (by assumption) ?_; rotate_left; focus (intro w' hSw; (try dsimp only at hSw); go_simp; all_goals with_reducible rfl)
              try simp only [Act.put, qs0, qs1, qs2]
              refine wpAnyH_take (i := 35) (v := ?_) (by simp only [qg0, qg1, qg2]; rfl) (by kernel_rfl) (by kernel_rfl) (by kernel_rfl) (by exact fun _ _ _ h => h) (Or.inl ⟨by rfl, ?_⟩) (by assumption) ?_; rotate_left; focus (intro w' hSw; (try dsimp only at hSw); go_simp; all_goals with_reducible rfl)
              try simp only [Act.put, qs0, qs1, qs2]
              refine wpAnyH_done (by kernel_rfl) ?_ _
              have HF := Lib.hid hHeld.1
              clear hHeld HG HS
              go_wp2_with fail
              go_roundg (gk - 1)
              case measure => have := HGK.out; omega
              case rel => exact ⟨k + 1, by omega, by go_num, ⟨by have := HGK.out; omega⟩, ⟨true, gl, gm, rfl, rfl, HF.out.o.noAct⟩⟩
        · as_aux_lemma =>
            cases u with
            | false =>
              rw [show ptrIf false gm = .pointer none from rfl]
              go_wp2_with fail
              clear k0 k1 k2 k3 k4 n0 n1 n2 n3 n4
              have HX := Lib.hid HZ.out
              clear HZ
              obtain ⟨ge, hge⟩ := HX.out.gOf
              have HG := Lib.hid hge
              have hger := hge.rng
              have HS := Lib.hid (fun (W : World) (h : OpenG (ZA wo.heap.size (actObj f0 f1 f2 (.slice B f3.length c) (.slice D f4.length d))) w W g gr room false gl gm ge) => g_same h hroom.2)
              clear hge HX
              refine wp_region_held_drew (S := fun w' => OpenG (ZA wo.heap.size (actObj f0 f1 f2 (.slice B f3.length c) (.slice D f4.length d))) w w' g gr room false gl gm ge) (by kernel_rfl) ?_ (fun hHeld => ?_)
              · exact HG.out.drew
              refine wpAnyH_take (i := 0) (v := ?_) (by simp only [qg0, qg1, qg2]; rfl) (by kernel_rfl) (by kernel_rfl) (by kernel_rfl) (by exact fun _ _ _ h => h) (Or.inl ⟨by rfl, ?_⟩) (by assumption) ?_; rotate_left; focus (intro w' hSw; (try dsimp only at hSw); go_simp; all_goals with_reducible rfl)
              try simp only [Act.put, qs0, qs1, qs2]
              refine wpAnyH_take (i := 1) (v := ?_) (by simp only [qg0, qg1, qg2]; rfl) (by kernel_rfl) (by kernel_rfl) (by kernel_rfl) (by exact fun _ _ _ h => h) (Or.inl ⟨by rfl, ?_⟩) (by assumption) ?_; rotate_left; focus (intro w' hSw; (try dsimp only at hSw); go_simp; all_goals with_reducible rfl)
              try simp only [Act.put, qs0, qs1, qs2]
              refine wpAnyH_take (i := 2) (v := ?_) (by simp only [qg0, qg1, qg2]; rfl) (by kernel_rfl) (by kernel_rfl) (by kernel_rfl) (by exact fun _ _ _ h => h) (Or.inl ⟨by rfl, ?_⟩) (by assumption) ?_; rotate_left; focus (intro w' hSw; (try dsimp only at hSw); go_simp; all_goals with_reducible rfl)
              try simp only [Act.put, qs0, qs1, qs2]
              refine wpAnyH_take (i := 3) (v := ?_) (by simp only [qg0, qg1, qg2]; rfl) (by kernel_rfl) (by kernel_rfl) (by kernel_rfl) (by exact fun _ _ _ h => h) (Or.inl ⟨by rfl, ?_⟩) (by assumption) ?_; rotate_left; focus (intro w' hSw; (try dsimp only at hSw); go_simp; all_goals with_reducible rfl)
              try simp only [Act.put, qs0, qs1, qs2]
              refine wpAnyH_take (i := 4) (v := ?_) (by simp only [qg0, qg1, qg2]; rfl) (by kernel_rfl) (by kernel_rfl) (by kernel_rfl) (by exact fun _ _ _ h => h) (Or.inl ⟨by rfl, ?_⟩) (by assumption) ?_; rotate_left; focus (intro w' hSw; (try dsimp only at hSw); go_simp; all_goals with_reducible rfl)
              try simp only [Act.put, qs0, qs1, qs2]
              refine wpAnyH_take (i := 5) (v := ?_) (by simp only [qg0, qg1, qg2]; rfl) (by kernel_rfl) (by kernel_rfl) (by kernel_rfl) (by exact fun _ _ _ h => h) (Or.inl ⟨by rfl, ?_⟩) (by assumption) ?_; rotate_left; focus (intro w' hSw; (try dsimp only at hSw); go_simp; all_goals with_reducible rfl)
              try simp only [Act.put, qs0, qs1, qs2]
              refine wpAnyH_ready (rs := [6]) (by kernel_rfl) (by simp) ?_
              refine AllReadyH.cons (by simp only [qg0, qg1, qg2]; rfl) (fun K hK => ?_) AllReadyH.nil
              go_simp
              refine (HS.out _ hHeld).mono ?_
              rintro e w3 ⟨rfl, hI3⟩
              refine hK.out _ _ ?_ (fun hHeld => ?_)
              · exact hI3
              clear hK K
              try simp only [Act.put, qs0, qs1, qs2]
              refine wpAnyH_take (i := 7) (v := ?_) (by simp only [qg0, qg1, qg2]; rfl) (by kernel_rfl) (by kernel_rfl) (by kernel_rfl) (by exact fun _ _ _ h => h) (Or.inl ⟨by rfl, ?_⟩) (by assumption) ?_; rotate_left; focus (intro w' hSw; (try dsimp only at hSw); go_simp; all_goals with_reducible rfl)
              try simp only [Act.put, qs0, qs1, qs2]
              refine wpAnyH_take (i := 8) (v := ?_) (by simp only [qg0, qg1, qg2]; rfl) (by kernel_rfl) (by kernel_rfl) (by kernel_rfl) (by exact fun _ _ _ h => h) (Or.inl ⟨by rfl, ?_⟩) (by assumption) ?_; rotate_left; focus (intro w' hSw; (try dsimp only at hSw); go_simp; all_goals with_reducible rfl)
              try simp only [Act.put, qs0, qs1, qs2]
              refine wpAnyH_take (i := 9) (v := ?_) (by simp only [qg0, qg1, qg2]; rfl) (by kernel_rfl) (by kernel_rfl) (by kernel_rfl) (by exact fun _ _ _ h => h) (Or.inl ⟨by rfl, ?_⟩) (by assumption) ?_; rotate_left; focus (intro w' hSw; (try dsimp only at hSw); go_simp; all_goals with_reducible rfl)
              try simp only [Act.put, qs0, qs1, qs2]
              refine wpAnyH_take (i := 10) (v := ?_) (by simp only [qg0, qg1, qg2]; rfl) (by kernel_rfl) (by kernel_rfl) (by kernel_rfl) (by exact fun _ _ _ h => h) (Or.inl ⟨by rfl, ?_⟩) (by assumption) ?_; rotate_left; focus (intro w' hSw; (try dsimp only at hSw); go_simp; all_goals with_reducible rfl)
              try simp only [Act.put, qs0, qs1, qs2]
              refine wpAnyH_take (i := 11) (v := ?_) (by simp only [qg0, qg1, qg2]; rfl) (by kernel_rfl) (by kernel_rfl) (by kernel_rfl) (by exact fun _ _ _ h => h) (Or.inl ⟨by rfl, ?_⟩) (by assumption) ?_; rotate_left; focus (intro w' hSw; (try dsimp only at hSw); go_simp; all_goals with_reducible rfl)
              try simp only [Act.put, qs0, qs1, qs2]
              refine wpAnyH_take (i := 12) (v := ?_) (by simp only [qg0, qg1, qg2]; rfl) (by kernel_rfl) (by kernel_rfl) (by kernel_rfl) (by exact fun _ _ _ h => h) (Or.inl ⟨by rfl, ?_⟩) (by assumption) ?_; rotate_left; focus (intro w' hSw; (try dsimp only at hSw); go_simp; all_goals with_reducible rfl)
              try simp only [Act.put, qs0, qs1, qs2]
              refine wpAnyH_take (i := 13) (v := undef) (by simp only [qg0, qg1, qg2]; rfl) (by kernel_rfl) (by kernel_rfl) (by kernel_rfl) (by exact fun _ _ _ h => h) (Or.inr ⟨by rfl, rfl⟩) (by assumption) ?_
              try simp only [Act.put, qs0, qs1, qs2]
              refine wpAnyH_take (i := 14) (v := undef) (by simp only [qg0, qg1, qg2]; rfl) (by kernel_rfl) (by kernel_rfl) (by kernel_rfl) (by exact fun _ _ _ h => h) (Or.inr ⟨by rfl, rfl⟩) (by assumption) ?_
              try simp only [Act.put, qs0, qs1, qs2]
              refine wpAnyH_take (i := 15) (v := undef) (by simp only [qg0, qg1, qg2]; rfl) (by kernel_rfl) (by kernel_rfl) (by kernel_rfl) (by exact fun _ _ _ h => h) (Or.inr ⟨by rfl, rfl⟩) (by assumption) ?_
              try simp only [Act.put, qs0, qs1, qs2]
              refine wpAnyH_take (i := 16) (v := undef) (by simp only [qg0, qg1, qg2]; rfl) (by kernel_rfl) (by kernel_rfl) (by kernel_rfl) (by exact fun _ _ _ h => h) (Or.inr ⟨by rfl, rfl⟩) (by assumption) ?_
              try simp only [Act.put, qs0, qs1, qs2]
              refine wpAnyH_take (i := 17) (v := undef) (by simp only [qg0, qg1, qg2]; rfl) (by kernel_rfl) (by kernel_rfl) (by kernel_rfl) (by exact fun _ _ _ h => h) (Or.inr ⟨by rfl, rfl⟩) (by assumption) ?_
              try simp only [Act.put, qs0, qs1, qs2]
              refine wpAnyH_take (i := 18) (v := undef) (by simp only [qg0, qg1, qg2]; rfl) (by kernel_rfl) (by kernel_rfl) (by kernel_rfl) (by exact fun _ _ _ h => h) (Or.inr ⟨by rfl, rfl⟩) (by assumption) ?_
              try simp only [Act.put, qs0, qs1, qs2]
              refine wpAnyH_take (i := 19) (v := undef) (by simp only [qg0, qg1, qg2]; rfl) (by kernel_rfl) (by kernel_rfl) (by kernel_rfl) (by exact fun _ _ _ h => h) (Or.inr ⟨by rfl, rfl⟩) (by assumption) ?_
              try simp only [Act.put, qs0, qs1, qs2]
              refine wpAnyH_take (i := 20) (v := ?_) (by simp only [qg0, qg1, qg2]; rfl) (by kernel_rfl) (by kernel_rfl) (by kernel_rfl) (by exact fun _ _ _ h => h) (Or.inl ⟨by rfl, ?_⟩) (by assumption) ?_; rotate_left; focus (intro w' hSw; (try dsimp only at hSw); go_simp; all_goals with_reducible rfl)
              try simp only [Act.put, qs0, qs1, qs2]
              refine wpAnyH_take (i := 21) (v := ?_) (by simp only [qg0, qg1, qg2]; rfl) (by kernel_rfl) (by kernel_rfl) (by kernel_rfl) (by exact fun _ _ _ h => h) (Or.inl ⟨by rfl, ?_⟩) (by assumption) ?_; rotate_left; focus (intro w' hSw; (try dsimp only at hSw); go_simp; all_goals with_reducible rfl)
              try simp only [Act.put, qs0, qs1, qs2]
              refine wpAnyH_take (i := 22) (v := ?_) (by simp only [qg0, qg1, qg2]; rfl) (by kernel_rfl) (by kernel_rfl) (by kernel_rfl) (by exact fun _ _ _ h => h) (Or.inl ⟨by rfl, ?_⟩) (by assumption) ?_; rotate_left; focus (intro w' hSw; (try dsimp only at hSw); go_simp; all_goals with_reducible rfl)
              try simp only [Act.put, qs0, qs1, qs2]
              refine wpAnyH_take (i := 23) (v := ?_) (by simp only [qg0, qg1, qg2]; rfl) (by kernel_rfl) (by kernel_rfl) (by kernel_rfl) (by exact fun _ _ _ h => h) (Or.inl ⟨by rfl, ?_⟩) (by assumption) ?_; rotate_left; focus (intro w' hSw; (try dsimp only at hSw); go_simp; all_goals with_reducible rfl)
              try simp only [Act.put, qs0, qs1, qs2]
              refine wpAnyH_take (i := 24) (v := ?_) (by simp only [qg0, qg1, qg2]; rfl) (by kernel_rfl) (by kernel_rfl) (by kernel_rfl) (by exact fun _ _ _ h => h) (Or.inl ⟨by rfl, ?_⟩) (by assumption) ?_; rotate_left; focus (intro w' hSw; (try dsimp only at hSw); go_simp; all_goals with_reducible rfl)
              try simp only [Act.put, qs0, qs1, qs2]
              refine wpAnyH_take (i := 25) (v := ?_) (by simp only [qg0, qg1, qg2]; rfl) (by kernel_rfl) (by kernel_rfl) (by kernel_rfl) (by exact fun _ _ _ h => h) (Or.inl ⟨by rfl, ?_⟩) (by assumption) ?_; rotate_left; focus (intro w' hSw; (try dsimp only at hSw); go_simp; all_goals with_reducible rfl)
              try simp only [Act.put, qs0, qs1, qs2]
              refine wpAnyH_take (i := 26) (v := ?_) (by simp only [qg0, qg1, qg2]; rfl) (by kernel_rfl) (by kernel_rfl) (by kernel_rfl) (by exact fun _ _ _ h => h) (Or.inl ⟨by rfl, ?_⟩) (by assumption) ?_; rotate_left; focus (intro w' hSw; (try dsimp only at hSw); go_simp; all_goals with_reducible rfl)
              try simp only [Act.put, qs0, qs1, qs2]
              refine wpAnyH_ready (rs := [27]) (by kernel_rfl) (by simp) ?_
              refine AllReadyH.cons (by simp only [qg0, qg1, qg2]; rfl) (fun K hK => ?_) AllReadyH.nil
              go_simp
              refine (g_gen hHeld).mono ?_
              rintro e w4 ⟨rfl, hI4⟩
              refine hK.out _ _ ?_ (fun hHeld => ?_)
              · exact hI4
              clear hK K
              try simp only [Act.put, qs0, qs1, qs2]
              refine wpAnyH_take (i := 28) (v := ?_) (by simp only [qg0, qg1, qg2]; rfl) (by kernel_rfl) (by kernel_rfl) (by kernel_rfl) (by exact fun _ _ _ h => h) (Or.inl ⟨by rfl, ?_⟩) (by assumption) ?_; rotate_left; focus (intro w' hSw; (try dsimp only at hSw); go_simp; all_goals with_reducible rfl)
              try simp only [Act.put, qs0, qs1, qs2]
              refine wpAnyH_take (i := 29) (v := ?_) (by simp only [qg0, qg1, qg2]; rfl) (by kernel_rfl) (by kernel_rfl) (by kernel_rfl) (by exact fun _ _ _ h => h) (Or.inl ⟨by rfl, ?_⟩) (by assumption) ?_; rotate_left; focus (intro w' hSw; (try dsimp only at hSw); go_simp; all_goals with_reducible rfl)
              try simp only [Act.put, qs0, qs1, qs2]
              refine wpAnyH_take (i := 30) (v := ?_) (by simp only [qg0, qg1, qg2]; rfl) (by kernel_rfl) (by kernel_rfl) (by kernel_rfl) (by exact fun _ _ _ h => h) (Or.inl ⟨by rfl, ?_⟩) (by assumption) ?_; rotate_left; focus (intro w' hSw; (try dsimp only at hSw); go_simp; all_goals with_reducible rfl)
              try simp only [Act.put, qs0, qs1, qs2]
              refine wpAnyH_ready (rs := [31]) (by kernel_rfl) (by simp) ?_
              refine AllReadyH.cons (by simp only [qg0, qg1, qg2]; rfl) (fun K hK => ?_) AllReadyH.nil
              go_simp
              refine (g_size hHeld).mono ?_
              rintro e w5 ⟨rfl, hI5⟩
              refine hK.out _ _ ?_ (fun hHeld => ?_)
              · exact hI5
              clear hK K
              try simp only [Act.put, qs0, qs1, qs2]
              refine wpAnyH_take (i := 32) (v := ?_) (by simp only [qg0, qg1, qg2]; rfl) (by kernel_rfl) (by kernel_rfl) (by kernel_rfl) (by exact fun _ _ _ h => h) (Or.inl ⟨by rfl, ?_⟩) (by assumption) ?_; rotate_left; focus (intro w' hSw; (try dsimp only at hSw); go_simp; all_goals with_reducible rfl)
              try simp only [Act.put, qs0, qs1, qs2]
              refine wpAnyH_take (i := 33) (v := ?_) (by simp only [qg0, qg1, qg2]; rfl) (by kernel_rfl) (by kernel_rfl) (by kernel_rfl) (by exact fun _ _ _ h => h) (Or.inl ⟨by rfl, ?_⟩) (by assumption) ?_; rotate_left; focus (intro w' hSw; (try dsimp only at hSw); go_simp; all_goals with_reducible rfl)
              try simp only [Act.put, qs0, qs1, qs2]
              refine wpAnyH_take (i := 34) (v := ?_) (by simp only [qg0, qg1, qg2]; rfl) (by kernel_rfl) (by kernel_rfl) (by kernel_rfl) (by exact fun _ _ _ h => h) (Or.inl ⟨by rfl, ?_⟩) (by assumption) ?_; rotate_left; focus (intro w' hSw; (try dsimp only at hSw); go_simp; all_goals with_reducible rfl)
              try simp only [Act.put, qs0, qs1, qs2]
              refine wpAnyH_take (i := 35) (v := ?_) (by simp only [qg0, qg1, qg2]; rfl) (by kernel_rfl) (by kernel_rfl) (by kernel_rfl) (by exact fun _ _ _ h => h) (Or.inl ⟨by rfl, ?_⟩) (by assumption) ?_; rotate_left; focus (intro w' hSw; (try dsimp only at hSw); go_simp; all_goals with_reducible rfl)
              try simp only [Act.put, qs0, qs1, qs2]
              refine wpAnyH_done (by kernel_rfl) ?_ _
              have HF := Lib.hid hHeld
              clear hHeld HG HS
              go_wp2_with fail
              go_roundg (gk - 1)
              case measure => have := HGK.out; omega
              case rel => exact ⟨k + 1, by omega, by go_num, ⟨by have := HGK.out; omega⟩, ⟨false, gl, gm, rfl, rfl, HF.out.o.noAct⟩⟩
            | true =>
              rw [show ptrIf true gm = .pointer (some ⟨gm, 0, none⟩) from rfl]
              go_wp2_with fail
              clear k0 k1 k2 k3 k4 n0 n1 n2 n3 n4
              have HX := Lib.hid HZ.out
              clear HZ
              obtain ⟨ge, hge⟩ := HX.out.gOf
              have HG := Lib.hid hge
              have hger := hge.rng
              have HS := Lib.hid (fun (W : World) (h : OpenG (ZA wo.heap.size (actObj f0 f1 f2 (.slice B f3.length c) (.slice D f4.length d))) w W g gr room true gl gm ge) => g_same h hroom.2)
              clear hge HX
              refine wp_region_held_drew (S := fun w' => OpenG (ZA wo.heap.size (actObj f0 f1 f2 (.slice B f3.length c) (.slice D f4.length d))) w w' g gr room true gl gm ge ∧ w'.cell? ⟨gm, 2, none⟩ = some (.int .u64 ge)) (by kernel_rfl) ?_ (fun hHeld => ?_)
              · exact ⟨HG.out.drew, HG.out.drew.c2⟩
              refine wpAnyH_take (i := 0) (v := ?_) (by simp only [qg0, qg1, qg2]; rfl) (by kernel_rfl) (by kernel_rfl) (by kernel_rfl) (by exact fun _ _ _ h => h) (Or.inl ⟨by rfl, ?_⟩) (by assumption) ?_; rotate_left; focus (intro w' hSw; (try dsimp only at hSw); go_simp; all_goals with_reducible rfl)
              try simp only [Act.put, qs0, qs1, qs2]
              refine wpAnyH_take (i := 1) (v := ?_) (by simp only [qg0, qg1, qg2]; rfl) (by kernel_rfl) (by kernel_rfl) (by kernel_rfl) (by exact fun _ _ _ h => h) (Or.inl ⟨by rfl, ?_⟩) (by assumption) ?_; rotate_left; focus (intro w' hSw; (try dsimp only at hSw); go_simp; all_goals with_reducible rfl)
              try simp only [Act.put, qs0, qs1, qs2]
              refine wpAnyH_take (i := 2) (v := ?_) (by simp only [qg0, qg1, qg2]; rfl) (by kernel_rfl) (by kernel_rfl) (by kernel_rfl) (by exact fun _ _ _ h => h) (Or.inl ⟨by rfl, ?_⟩) (by assumption) ?_; rotate_left; focus (intro w' hSw; (try dsimp only at hSw); go_simp; all_goals with_reducible rfl)
              try simp only [Act.put, qs0, qs1, qs2]
              refine wpAnyH_take (i := 3) (v := ?_) (by simp only [qg0, qg1, qg2]; rfl) (by kernel_rfl) (by kernel_rfl) (by kernel_rfl) (by exact fun _ _ _ h => h) (Or.inl ⟨by rfl, ?_⟩) (by assumption) ?_; rotate_left; focus (intro w' hSw; (try dsimp only at hSw); go_simp; all_goals with_reducible rfl)
              try simp only [Act.put, qs0, qs1, qs2]
              refine wpAnyH_take (i := 4) (v := ?_) (by simp only [qg0, qg1, qg2]; rfl) (by kernel_rfl) (by kernel_rfl) (by kernel_rfl) (by exact fun _ _ _ h => h) (Or.inl ⟨by rfl, ?_⟩) (by assumption) ?_; rotate_left; focus (intro w' hSw; (try dsimp only at hSw); go_simp; all_goals with_reducible rfl)
              try simp only [Act.put, qs0, qs1, qs2]
              refine wpAnyH_take (i := 5) (v := ?_) (by simp only [qg0, qg1, qg2]; rfl) (by kernel_rfl) (by kernel_rfl) (by kernel_rfl) (by exact fun _ _ _ h => h) (Or.inl ⟨by rfl, ?_⟩) (by assumption) ?_; rotate_left; focus (intro w' hSw; (try dsimp only at hSw); go_simp; all_goals with_reducible rfl)
              try simp only [Act.put, qs0, qs1, qs2]
              refine wpAnyH_ready (rs := [6]) (by kernel_rfl) (by simp) ?_
              refine AllReadyH.cons (by simp only [qg0, qg1, qg2]; rfl) (fun K hK => ?_) AllReadyH.nil
              go_simp
              refine (HS.out _ hHeld.1).mono ?_
              rintro e w3 ⟨rfl, hI3⟩
              refine hK.out _ _ ?_ (fun hHeld => ?_)
              · exact ⟨hI3, hI3.c2⟩
              clear hK K
              try simp only [Act.put, qs0, qs1, qs2]
              refine wpAnyH_take (i := 7) (v := ?_) (by simp only [qg0, qg1, qg2]; rfl) (by kernel_rfl) (by kernel_rfl) (by kernel_rfl) (by exact fun _ _ _ h => h) (Or.inl ⟨by rfl, ?_⟩) (by assumption) ?_; rotate_left; focus (intro w' hSw; (try dsimp only at hSw); go_simp; all_goals with_reducible rfl)
              try simp only [Act.put, qs0, qs1, qs2]
              refine wpAnyH_take (i := 8) (v := ?_) (by simp only [qg0, qg1, qg2]; rfl) (by kernel_rfl) (by kernel_rfl) (by kernel_rfl) (by exact fun _ _ _ h => h) (Or.inl ⟨by rfl, ?_⟩) (by assumption) ?_; rotate_left; focus (intro w' hSw; (try dsimp only at hSw); go_simp; all_goals with_reducible rfl)
              try simp only [Act.put, qs0, qs1, qs2]
              refine wpAnyH_take (i := 9) (v := ?_) (by simp only [qg0, qg1, qg2]; rfl) (by kernel_rfl) (by kernel_rfl) (by kernel_rfl) (by exact fun _ _ _ h => h) (Or.inl ⟨by rfl, ?_⟩) (by assumption) ?_; rotate_left; focus (intro w' hSw; (try dsimp only at hSw); go_simp; all_goals with_reducible rfl)
              try simp only [Act.put, qs0, qs1, qs2]
              refine wpAnyH_take (i := 10) (v := ?_) (by simp only [qg0, qg1, qg2]; rfl) (by kernel_rfl) (by kernel_rfl) (by kernel_rfl) (by exact fun _ _ _ h => h) (Or.inl ⟨by rfl, ?_⟩) (by assumption) ?_; rotate_left; focus (intro w' hSw; (try dsimp only at hSw); go_simp; all_goals with_reducible rfl)
              try simp only [Act.put, qs0, qs1, qs2]
              refine wpAnyH_take (i := 11) (v := ?_) (by simp only [qg0, qg1, qg2]; rfl) (by kernel_rfl) (by kernel_rfl) (by kernel_rfl) (by exact fun _ _ _ h => h) (Or.inl ⟨by rfl, ?_⟩) (by assumption) ?_; rotate_left; focus (intro w' hSw; (try dsimp only at hSw); go_simp; all_goals with_reducible rfl)
              try simp only [Act.put, qs0, qs1, qs2]
              refine wpAnyH_take (i := 12) (v := ?_) (by simp only [qg0, qg1, qg2]; rfl) (by kernel_rfl) (by kernel_rfl) (by kernel_rfl) (by exact fun _ _ _ h => h) (Or.inl ⟨by rfl, ?_⟩) (by assumption) ?_; rotate_left; focus (intro w' hSw; (try dsimp only at hSw); go_simp; all_goals with_reducible rfl)
              try simp only [Act.put, qs0, qs1, qs2]
              refine wpAnyH_take (i := 13) (v := ?_) (by simp only [qg0, qg1, qg2]; rfl) (by kernel_rfl) (by kernel_rfl) (by kernel_rfl) (by exact fun _ _ _ h => h) (Or.inl ⟨by rfl, ?_⟩) (by assumption) ?_; rotate_left; focus (intro w' hSw; (try dsimp only at hSw); go_simp; all_goals with_reducible rfl)
              try simp only [Act.put, qs0, qs1, qs2]
              refine wpAnyH_take (i := 15) (v := ?_) (by simp only [qg0, qg1, qg2]; rfl) (by kernel_rfl) (by kernel_rfl) (by kernel_rfl) (by exact fun _ _ _ h => h) (Or.inl ⟨by rfl, ?_⟩) (by assumption) ?_; rotate_left; focus (intro w' hSw; (try dsimp only at hSw); go_simp; all_goals with_reducible rfl)
              try simp only [Act.put, qs0, qs1, qs2]
              refine wpAnyH_take (i := 16) (v := ?_) (by simp only [qg0, qg1, qg2]; rfl) (by kernel_rfl) (by kernel_rfl) (by kernel_rfl) (by exact fun _ _ _ h => h) (Or.inl ⟨by rfl, ?_⟩) (by assumption) ?_; rotate_left; focus (intro w' hSw; (try dsimp only at hSw); go_simp; all_goals with_reducible rfl)
              try simp only [Act.put, qs0, qs1, qs2]
              refine wpAnyH_take (i := 17) (v := ?_) (by simp only [qg0, qg1, qg2]; rfl) (by kernel_rfl) (by kernel_rfl) (by kernel_rfl) (by exact fun _ _ _ h => h) (Or.inl ⟨by rfl, ?_⟩) (by assumption) ?_; rotate_left; focus (intro w' hSw; (try dsimp only at hSw); go_simp; all_goals with_reducible rfl)
              try simp only [Act.put, qs0, qs1, qs2]
              refine wpAnyH_take (i := 18) (v := ?_) (by simp only [qg0, qg1, qg2]; rfl) (by kernel_rfl) (by kernel_rfl) (by kernel_rfl) (by exact fun _ _ _ h => h) (Or.inl ⟨by rfl, ?_⟩) (by assumption) ?_; rotate_left; focus (intro w' hSw; (try dsimp only at hSw); go_simp; all_goals with_reducible rfl)
              try simp only [Act.put, qs0, qs1, qs2]
              refine wpAnyH_ready (rs := [14]) (by kernel_rfl) (by simp) ?_
              refine AllReadyH.cons (by simp only [qg0, qg1, qg2]; rfl) (fun K hK => ?_) AllReadyH.nil
              go_simp
              refine (g_gen hHeld.1).mono ?_
              rintro e w4 ⟨rfl, hI4⟩
              refine hK.out _ _ ?_ (fun hHeld => ?_)
              · exact ⟨hI4, hI4.c2⟩
              clear hK K
              try simp only [Act.put, qs0, qs1, qs2]
              refine wpAnyH_take (i := 19) (v := ?_) (by simp only [qg0, qg1, qg2]; rfl) (by kernel_rfl) (by kernel_rfl) (by kernel_rfl) (by exact fun _ _ _ h => h) (Or.inl ⟨by rfl, ?_⟩) (by assumption) ?_; rotate_left; focus (intro w' hSw; (try dsimp only at hSw); go_simp; all_goals with_reducible rfl)
              try simp only [Act.put, qs0, qs1, qs2]
              refine wpAnyH_take (i := 20) (v := ?_) (by simp only [qg0, qg1, qg2]; rfl) (by kernel_rfl) (by kernel_rfl) (by kernel_rfl) (by exact fun _ _ _ h => h) (Or.inl ⟨by rfl, ?_⟩) (by assumption) ?_; rotate_left; focus (intro w' hSw; (try dsimp only at hSw); go_simp; all_goals with_reducible rfl)
              try simp only [Act.put, qs0, qs1, qs2]
              refine wpAnyH_take (i := 21) (v := ?_) (by simp only [qg0, qg1, qg2]; rfl) (by kernel_rfl) (by kernel_rfl) (by kernel_rfl) (by exact fun _ _ _ h => h) (Or.inl ⟨by rfl, ?_⟩) (by assumption) ?_; rotate_left; focus (intro w' hSw; (try dsimp only at hSw); go_simp; all_goals with_reducible rfl)
              try simp only [Act.put, qs0, qs1, qs2]
              refine wpAnyH_take (i := 22) (v := ?_) (by simp only [qg0, qg1, qg2]; rfl) (by kernel_rfl) (by kernel_rfl) (by kernel_rfl) (by exact fun _ _ _ h => h) (Or.inl ⟨by rfl, ?_⟩) (by assumption) ?_; rotate_left; focus (intro w' hSw; (try dsimp only at hSw); go_simp; all_goals with_reducible rfl)
              try simp only [Act.put, qs0, qs1, qs2]
              refine wpAnyH_take (i := 23) (v := ?_) (by simp only [qg0, qg1, qg2]; rfl) (by kernel_rfl) (by kernel_rfl) (by kernel_rfl) (by exact fun _ _ _ h => h) (Or.inl ⟨by rfl, ?_⟩) (by assumption) ?_; rotate_left; focus (intro w' hSw; (try dsimp only at hSw); go_simp; all_goals with_reducible rfl)
              try simp only [Act.put, qs0, qs1, qs2]
              refine wpAnyH_take (i := 24) (v := ?_) (by simp only [qg0, qg1, qg2]; rfl) (by kernel_rfl) (by kernel_rfl) (by kernel_rfl) (by exact fun _ _ _ h => h) (Or.inl ⟨by rfl, ?_⟩) (by assumption) ?_; rotate_left; focus (intro w' hSw; (try dsimp only at hSw); go_simp; all_goals with_reducible rfl)
              try simp only [Act.put, qs0, qs1, qs2]
              refine wpAnyH_take (i := 25) (v := ?_) (by simp only [qg0, qg1, qg2]; rfl) (by kernel_rfl) (by kernel_rfl) (by kernel_rfl) (by exact fun _ _ _ h => h) (Or.inl ⟨by rfl, ?_⟩) (by assumption) ?_; rotate_left; focus (intro w' hSw; (try dsimp only at hSw); go_simp; all_goals with_reducible rfl)
              try simp only [Act.put, qs0, qs1, qs2]
              refine wpAnyH_take (i := 26) (v := undef) (by simp only [qg0, qg1, qg2]; rfl) (by kernel_rfl) (by kernel_rfl) (by kernel_rfl) (by exact fun _ _ _ h => h) (Or.inr ⟨by rfl, rfl⟩) (by assumption) ?_
              try simp only [Act.put, qs0, qs1, qs2]
              refine wpAnyH_take (i := 27) (v := undef) (by simp only [qg0, qg1, qg2]; rfl) (by kernel_rfl) (by kernel_rfl) (by kernel_rfl) (by exact fun _ _ _ h => h) (Or.inr ⟨by rfl, rfl⟩) (by assumption) ?_
              try simp only [Act.put, qs0, qs1, qs2]
              refine wpAnyH_take (i := 28) (v := undef) (by simp only [qg0, qg1, qg2]; rfl) (by kernel_rfl) (by kernel_rfl) (by kernel_rfl) (by exact fun _ _ _ h => h) (Or.inr ⟨by rfl, rfl⟩) (by assumption) ?_
              try simp only [Act.put, qs0, qs1, qs2]
              refine wpAnyH_take (i := 29) (v := undef) (by simp only [qg0, qg1, qg2]; rfl) (by kernel_rfl) (by kernel_rfl) (by kernel_rfl) (by exact fun _ _ _ h => h) (Or.inr ⟨by rfl, rfl⟩) (by assumption) ?_
              try simp only [Act.put, qs0, qs1, qs2]
              refine wpAnyH_take (i := 30) (v := undef) (by simp only [qg0, qg1, qg2]; rfl) (by kernel_rfl) (by kernel_rfl) (by kernel_rfl) (by exact fun _ _ _ h => h) (Or.inr ⟨by rfl, rfl⟩) (by assumption) ?_
              try simp only [Act.put, qs0, qs1, qs2]
              refine wpAnyH_take (i := 31) (v := undef) (by simp only [qg0, qg1, qg2]; rfl) (by kernel_rfl) (by kernel_rfl) (by kernel_rfl) (by exact fun _ _ _ h => h) (Or.inr ⟨by rfl, rfl⟩) (by assumption) ?_
              try simp only [Act.put, qs0, qs1, qs2]
              refine wpAnyH_take (i := 32) (v := undef) (by simp only [qg0, qg1, qg2]; rfl) (by kernel_rfl) (by kernel_rfl) (by kernel_rfl) (by exact fun _ _ _ h => h) (Or.inr ⟨by rfl, rfl⟩) (by assumption) ?_
              try simp only [Act.put, qs0, qs1, qs2]
              refine wpAnyH_take (i := 33) (v := undef) (by simp only [qg0, qg1, qg2]; rfl) (by kernel_rfl) (by kernel_rfl) (by kernel_rfl) (by exact fun _ _ _ h => h) (Or.inr ⟨by rfl, rfl⟩) (by assumption) ?_
              try simp only [Act.put, qs0, qs1, qs2]
              refine wpAnyH_take (i := 34) (v := ?_) (by simp only [qg0, qg1, qg2]; rfl) (by kernel_rfl) (by kernel_rfl) (by kernel_rfl) (by exact fun _ _ _ h => h) (Or.inl ⟨by rfl, ?_⟩) (by assumption) ?_; rotate_left; focus (intro w' hSw; (try dsimp only at hSw); go_simp; all_goals with_reducible rfl)
              try simp only [Act.put, qs0, qs1, qs2]
              refine wpAnyH_take (i := 35) (v := ?_) (by simp only [qg0, qg1, qg2]; rfl) (by kernel_rfl) (by kernel_rfl) (by kernel_rfl) (by exact fun _ _ _ h => h) (Or.inl ⟨by rfl, ?_⟩) (by assumption) ?_; rotate_left; focus (intro w' hSw; (try dsimp only at hSw); go_simp; all_goals with_reducible rfl)
              try simp only [Act.put, qs0, qs1, qs2]
              refine wpAnyH_done (by kernel_rfl) ?_ _
              have HF := Lib.hid hHeld.1
              clear hHeld HG HS
              go_wp2_with fail
              go_roundg (gk - 1)
              case measure => have := HGK.out; omega
              case rel => exact ⟨k + 1, by omega, by go_num, ⟨by have := HGK.out; omega⟩, ⟨true, gl, gm, rfl, rfl, HF.out.o.noAct⟩⟩
    · subst hlt
      go_wp2_with fail
      go_ret
      exact ⟨rfl, HO.out.b⟩
set_option maxRecDepth 100000 in
theorem walk_LogRuns {H : Type} {enc : TypeId × Value → H} (W : World) (a0 : Int) (v1 : Value) (d1 : DataW H) (p1 : List MemPlace) (w0 : (Lit.int .i64 a0).wf = true)
    (h1 : DataW.Trod enc Try.prog W 0 (fun _ => true) true 22 v1 d1 p1) {base : Nat} (u1 : Value.okWide Try.prog W .any base 22 v1) (z1 : ∀ n ∈ DataW.weights Try.prog 22 d1, n ≤ reachBytes) :
    Calls Try.prog 6 #[.int .i64 a0, v1] W fun e W' => e = .returned (.bool true) ∧ Below W.heap.size W W' := by
  obtain ⟨A, c, l, rfl, hl, hC, hok, hll⟩ := acts_open W v1 d1 p1 h1 u1 z1
  exact runs_calls A c l hl a0 (Go.bounds_i64 w0) hok hll W hC
end Go.Proofs.Ytccdmedhkbabpaa

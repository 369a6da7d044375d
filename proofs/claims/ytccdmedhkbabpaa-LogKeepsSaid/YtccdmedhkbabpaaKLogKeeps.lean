/- The walk of LogKeeps: behind any falls the records are those that were appended with OK, and at most the one more. Condition: what the arguments' types demand. -/
import Derived.Test.YtccdmedhkbabpaaT4
import Derived.Deep.DeepCutAuto
set_option linter.unusedVariables false
set_option linter.unusedSimpArgs false
namespace Go.Proofs.Ytccdmedhkbabpaa
open Go.RowKit Go.Deep Go.Proofs.YtccdmedhkbabpaaW.PrintWords PRd PFr

set_option maxRecDepth 100000 in
set_option maxHeartbeats 32000000 in
theorem keeps_calls (R : Option Addr) (cap : Nat) (l : List S36) (hlc : l.length ≤ cap) (hf : ∀ x ∈ l, ActOk x) (hll : l.length ≤ 9223372036854775807) (w : World) (hC : k36.C w R l.length l) :
    Calls Try.prog 3 #[.slice R l.length cap] w fun e w' => e = .returned (.bool true) ∧ Below w.heap.size w w' := by
  have HA := Lib.hid (awake_calls w)
  have HC := Lib.hid hC
  have HFS := Lib.hid hf
  clear hC hf
  go_enter Try.func3, Try.ntmps3
  go_wp2_with fail
  refine HA.out.mono ?_
  rintro e w0 ⟨rfl, hB⟩
  have HB0 := Lib.hid hB
  clear hB HA
  go_wp2_with fail
  refine (small_calls R cap l hlc HFS.out hll w w0 HC.out HB0.out).mono ?_
  rintro e w1 ⟨b, rfl, hB, hsm⟩
  have HB1 := Lib.hid (below_then HB0.out HB0.out.size hB)
  clear hB HB0
  cases b with
  | false =>
    go_wp2_with fail
    go_ret
    exact ⟨rfl, HB1.out⟩
  | true =>
  have HSM := Lib.hid (hsm rfl)
  clear hsm
  go_wp2_with fail
  refine (drum_new 400000 (by omega) (by omega) w w1 HB1.out).mono ?_
  rintro e w2 ⟨g, rfl, ⟨K1, V1, hI1⟩, hB1⟩
  have HI1 := Lib.hid hI1
  have HB2 := Lib.hid hB1
  clear hI1 hB1 HB1
  go_wp2_with fail
  refine (log_new HI1.out HB2.out (by omega) (by omega)).mono ?_
  rintro e w3 ⟨gl, v3, A3, rfl, hgl, ⟨⟨K3, V3, hI3⟩, hB3, hF3, hU3⟩, hz, hR⟩
  obtain ⟨R3, c3, rfl⟩ := Kd.R_slice hR
  have HQ : Hid (Kq w w3 g 400000 true false gl [[]] 1) := Lib.hid ⟨_, _, _, _, ⟨hB3, ⟨K3, V3, hI3.more fun k o hk => hk.elim⟩, fun _ => ⟨Nat.le_trans HB2.out.size hgl, K3, V3, hI3⟩⟩, hF3, .inl ⟨rfl, 0, [], rfl, hU3, rfl, Int.le_refl _⟩⟩
  have HM : Hid (Kd.R kT 30 (w3.alloc (.cells #[.slice none 0 0] 30)) w.heap.size (fun _ => True) (.slice (some ⟨w3.heap.size, 0, none⟩) 1 1) [[]]) := Lib.hid (R_lit_one w3 w.heap.size HQ.out.b.size (Kd.R_nil _ _ _ _ _))
  have HQ2 := Lib.hid (HQ.out.below (below_alloc (Below.refl _ _) (.cells #[.slice none 0 0] 30)))
  clear hgl hI3 hB3 hF3 hU3 hz hR HI1 HB2 HQ
  go_wp2_with fail
  go_loopg [5, 8, 40] (l.length + 1) (fun gk v5 v8 v40 wr => ∃ (k gl : Nat) (up : Bool) (B : Option Addr) (c : Nat) (now : List ByteArray) (rest : List (List ByteArray)), k ≤ l.length ∧ k ≤ 60 ∧ v5 = ptrIf up gl ∧ v8 = .slice B (rest.length + 1) c ∧ v40 = .int .i64 (k : Int) ∧ rest.length ≤ k ∧ Aside0 (k + gk = l.length + 1) ∧ Aside0 (∀ x ∈ now :: rest, x.length ≤ 50 + k) ∧ Aside0 (Kd.R kT 30 wr w.heap.size (fun _ => True) (.slice B (now :: rest).length c) (now :: rest)) ∧ Aside0 (Kq w wr g 400000 up (!up) gl (now :: rest) (1 + (k : Int))))
  case atStart => exact ⟨0, gl, true, some ⟨w3.heap.size, 0, none⟩, 1, [], [], Nat.zero_le _, Nat.zero_le _, rfl, rfl, rfl, Nat.zero_le _, ⟨by omega⟩, ⟨by simp⟩, ⟨HM.out⟩, ⟨HQ2.out⟩⟩
  case round =>
    obtain ⟨wo, rfl⟩ : ∃ wo : World, wo = wr := ⟨_, rfl⟩
    obtain ⟨gout, rfl⟩ : ∃ gout : Nat, gout = gk := ⟨_, rfl⟩
    obtain ⟨k, gl, up, B, c, now, rest, hk, hk60, rfl, rfl, rfl, hrl, ⟨hg⟩, ⟨hlen⟩, ⟨hM⟩, ⟨hQ⟩⟩ := hrel
    have HGK := Lib.hid hg
    have HLEN := Lib.hid hlen
    have HM := Lib.hid hM
    have HQ := Lib.hid hQ
    clear hg hlen hM hQ HQ2
    rcases (show k < l.length ∨ k = l.length by omega) with hlt | hlt
    · obtain ⟨ad, B2, c2, D, d2, rfl, hok, k0, k1, k2, k3, k4, hbc, hrs, hdc, hrd, hfar⟩ := act_at HC.out HQ.out.b HFS.out k hlt
      have H50 := Lib.hid (HSM.out.2 l[k] (List.getElem_mem hlt))
      obtain ⟨x, hx⟩ : ∃ x, x = l[k] := ⟨_, rfl⟩
      rw [← hx] at hok k0 k1 k2 k3 k4 hbc hrs hdc hrd hfar H50
      clear hx
      obtain ⟨f0, f1, f2, f3, f4⟩ := x
      dsimp only at *
      obtain ⟨o0, o1, o2, o3⟩ := hok
      dsimp only at o0 o1 o2 o3
      have HO3 := Lib.hid o3
      have HRS := Lib.hid hrs
      have HRD := Lib.hid hrd
      have HFAR := Lib.hid hfar
      have HBX := Lib.hid (heap_alloc_new wo (actObj f0 f1 f2 (.slice B2 f3.length c2) (.slice D f4.length d2)))
      have HM1 := Lib.hid (Kd.R_alloc HM.out (actObj f0 f1 f2 (.slice B2 f3.length c2) (.slice D f4.length d2)))
      have HQ1 := Lib.hid (HQ.out.below (below_alloc (Below.refl _ _) (actObj f0 f1 f2 (.slice B2 f3.length c2) (.slice D f4.length d2))))
      obtain ⟨ad8, B8, c8, e8, m0, hnc, hnC⟩ := cand_at (Kd.R_reads' HM1.out).2.2 0 (Nat.zero_lt_succ _)
      subst e8
      have HNL := Lib.hid (HLEN.out now (List.mem_cons_self ..))
      have HNC := Lib.hid hnC
      have m1 : (wo.alloc (actObj f0 f1 f2 (.slice B2 f3.length c2) (.slice D f4.length d2))).cell? ad8 = some (.slice B8 now.length c8) := m0
      replace hnc : now.length ≤ c8 := hnc
      have hrn : 0 < rest.length + 1 := Nat.zero_lt_succ _
      obtain ⟨n0, n1, n2, n3, n4⟩ := act_box HBX.out
      unfold actObj at n0 n1 n2 n3 n4 m1
      clear o3 hrs hrd hfar m0 hnC HM HQ
      rcases (show (60 ≤ (k : Int) ∧ (k : Int) ≤ 60) ∨ (k : Int) ≠ 60 by omega) with ⟨h60, h61⟩ | h60
      · have HOO := Lib.hid HQ1.out.b
        go_wp2_with fail
        go_ret
        exact ⟨rfl, HOO.out⟩
      · rcases (show f0 = 0 ∨ f0 = 1 ∨ f0 = 2 ∨ f0 = 3 ∨ (f0 ≠ 0 ∧ f0 ≠ 1 ∧ f0 ≠ 2 ∧ f0 ≠ 3) by omega) with hw | hw | hw | hw | ⟨h0, h1, h2, h3⟩
        · as_aux_lemma =>
            subst hw
            go_wp2_with fail
            obtain ⟨wz, hwz⟩ : ∃ wz, wz = wo.alloc (.cells #[.int .i64 0, .int .i64 f1, .string f2, .slice B2 f3.length c2, .slice D f4.length d2] 36) := ⟨_, rfl⟩
            rw [← hwz] at n0 n1 n2 n3 n4 m1
            rw [← hwz]
            have HBZ : Hid (wz.heap[wo.heap.size]? = some (actObj 0 f1 f2 (.slice B2 f3.length c2) (.slice D f4.length d2))) := Lib.hid (by rw [hwz]; exact HBX.out)
            have HMZ : Hid (Kd.R kT 30 wz w.heap.size (fun _ => True) (.slice (some ad8) (now :: rest).length c) (now :: rest)) := Lib.hid (by rw [hwz]; exact HM1.out)
            have HQZ : Hid (Kq w wz g 400000 up (!up) gl (now :: rest) (1 + (k : Int))) := Lib.hid (by rw [hwz]; exact HQ1.out)
            have HNZ : Hid (Kd.string.C wz B8 now.length now) := Lib.hid (by rw [hwz]; exact HNC.out)
            have HWZ := Lib.hid HQZ.out.b.size
            have HWS : Hid (wo.heap.size + 1 = wz.heap.size) := Lib.hid (by rw [hwz]; exact (size_alloc1 _ _).symm)
            clear hwz HBX HM1 HQ1 HNC
            have hl16 : (([] : List ByteArray).length + now.length) * 16 ≤ 140737488355328 := by show (0 + now.length) * 16 ≤ _; have := HNL.out; omega
            have hl17 : (([] ++ now : List ByteArray).length + 1) * 16 ≤ 140737488355328 := by rw [List.nil_append]; have := HNL.out; omega
            have nne : ¬ (wz.heap.size = wo.heap.size) := World.new_ne wz _ n2
            have nne' : ¬ (wo.heap.size = wz.heap.size) := fun h => nne h.symm
            have n2a : ∀ o, (wz.alloc o).cell? ⟨wo.heap.size, 2, none⟩ = some (.string f2) := fun o => cell_below (below_alloc (Below.refl _ _) o) n2
            go_region_law (first
              | (refine Kd.R_append_rows_step Kd.string (Rr := Kd.string.K w) (w0 := wz) wz.heap.size (by rfl) (.tmp 54) (.tmp 55) 30 9 (.string ⟨#[]⟩) 16 (by rfl) Try.underlying30 info_str (by rfl) (by decide) (by omega) (.slice (some ⟨_, 0, none⟩) 0 0) [] now B8 now.length c8 (fun _ => True) (fun _ => False) (by rfl) (by rfl) (by first | exact Kd.R_drew (R_lit_nob _ _ (Below.size (B := wz.heap.size) (w := wz) (by repeat (first | exact Below.refl _ _ | refine below_alloc ?_ _ | refine below_drew ?_))) (by first | rfl | exact (size_alloc1 _ _).symm)) | exact Kd.R_drew (Kd.R_alloc (R_lit_nob _ _ (Below.size (B := wz.heap.size) (w := wz) (by repeat (first | exact Below.refl _ _ | refine below_alloc ?_ _ | refine below_drew ?_))) (by first | rfl | exact (size_alloc1 _ _).symm)) _)) (by exact now_C HNZ.out (by repeat (first | exact Below.refl _ _ | refine below_alloc ?_ _ | refine below_drew ?_))) (fun _ _ h => h) (fun _ hk => hk.elim) (fun _ _ => trivial) (by repeat (first | exact Below.refl _ _ | refine below_alloc ?_ _ | refine below_drew ?_)) (by exact Below.size (B := wz.heap.size) (w := wz) (by repeat (first | exact Below.refl _ _ | refine below_alloc ?_ _ | refine below_drew ?_))) hl16 ?_; intro v5 w5 hR5 hB5 hg5 hat5; have n25 := cell_below hB5 n2; first | have hl5 := lit_keepA hg5 rfl | have hl5 := lit_keepB hg5 rfl | skip)
              | (refine Kd.R_append_rows_step Kd.string (Rr := Kd.string.K w) (w0 := wz) wz.heap.size (by rfl) (.tmp 56) (.tmp 59) 30 9 (.string ⟨#[]⟩) 16 (by rfl) Try.underlying30 info_str (by rfl) (by decide) (by omega) v5 ([] ++ now) [f2] (some ⟨_, 0, none⟩) 1 1 (fun _ => True) (fun _ => False) (by rfl) (by rfl) (by first | exact hR5 | exact Kd.R_alloc hR5 _) (by first | exact lit_R lit_new | exact lit_R hl5) (fun _ _ h => h) (fun _ hk => hk.elim) (fun _ _ => trivial) (by first | exact hB5 | exact below_alloc hB5 _) (by first | exact hB5.size | exact (below_alloc hB5 _).size) hl17 ?_; intro v6 w6 hR6 hB6 hg6 hat6))
            all_goals (
              have HB6 := Lib.hid hB6
              have hR7 : Kd.R Kd.string 9 w6 w.heap.size (fun _ => True) v6 (now ++ [f2]) := Kd.R_lower hR6 HWZ.out
              clear hR6 hB6 hg6 hat6 hR5 hB5 hg5 hat5 n25 n2a nne nne' hl16 hl17 n0 n1 n2 n3 n4 m1
              obtain ⟨nx, hnx⟩ : ∃ nx, nx = now ++ [f2] := ⟨_, rfl⟩
              rw [← hnx] at hR7
              have hnl : nx.length ≤ 51 + k := by rw [hnx, List.length_append]; have := HNL.out; simp; omega
              obtain ⟨A6, c6, rfl⟩ := Kd.R_slice hR7
              have HN6 := Lib.hid hR7
              have HNX := Lib.hid hnx
              have HM6 := Lib.hid (Kd.R_below HMZ.out HB6.out)
              have HQ6 := Lib.hid (HQZ.out.below HB6.out)
              have HBX6 : Hid (w6.heap[wo.heap.size]? = some (actObj 0 f1 f2 (.slice B2 f3.length c2) (.slice D f4.length d2))) := Lib.hid ((HB6.out.block _ (lt_of_at HBZ.out)).trans HBZ.out)
              clear hR7 hnx HMZ HQZ HBZ HNZ HB6
              obtain ⟨n0, n1, n2, n3, n4⟩ := act_box HBX6.out
              go_wp2_with fail
              refine (k_append f2 HQ6.out (by omega) o2 (by decide)).mono ?_
              rintro e w7 ⟨code, dd, cand', rfl, ht, hq, hdu, hc⟩
              have HM7 := Lib.hid (told_R HM6.out ht)
              have HN7 := Lib.hid (told_S HN6.out ht)
              have HQ7 := Lib.hid hq
              rw [← HNX.out] at hc
              clear ht hq HM6 HN6 HQ6 HBX6 n0 n1 n2 n3 n4
              rcases hc with ⟨rfl, rfl⟩ | ⟨rfl, rfl⟩ | ⟨hc1, hc2, rfl⟩
              · have HM8 := Lib.hid (R_lit_one w7 w.heap.size HQ7.out.b.size HN7.out)
                have HQ8 := Lib.hid (HQ7.out.below (below_alloc (Below.refl _ _) (.cells #[.slice A6 nx.length c6] 30)))
                clear HM7 HN7 HQ7
                go_wp2_with fail
                refine (k_down HQ8.out).mono ?_
                rintro e wv ⟨rfl, rfl⟩
                cases dd with
                | false =>
                  obtain rfl := hdu rfl
                  go_wp2_with fail
                  go_roundg (gout - 1)
                  case measure => have := HGK.out; omega
                  case rel => exact ⟨k + 1, gl, true, (some ⟨w7.heap.size, 0, none⟩), 1, nx, [], by omega, by omega, rfl, rfl, by go_num, Nat.zero_le _, ⟨by have := HGK.out; omega⟩, ⟨fun x hx => by rw [List.mem_singleton.1 hx]; omega⟩, ⟨HM8.out⟩, ⟨HQ8.out.more (by omega)⟩⟩
                | true =>
                  go_wp2_with fail
                  go_roundg (gout - 1)
                  case measure => have := HGK.out; omega
                  case rel => exact ⟨k + 1, gl, false, (some ⟨w7.heap.size, 0, none⟩), 1, nx, [], by omega, by omega, rfl, rfl, by go_num, Nat.zero_le _, ⟨by have := HGK.out; omega⟩, ⟨fun x hx => by rw [List.mem_singleton.1 hx]; omega⟩, ⟨HM8.out⟩, ⟨HQ8.out.drop.more (by omega)⟩⟩
              · have hl33 : ((now :: rest).length + 1) * 24 ≤ 140737488355328 := by show (rest.length + 1 + 1) * 24 ≤ _; omega
                go_wp2_with ((with_reducible refine gate_builtin (b := .append) (xs := #[.tmp 73, .tmp 75]) rfl ?_); at_builtin; refine halt_ ?_)
                refine Lib.hid ?_
                refine Kd.R_append kT (w0 := w) w.heap.size rfl (.tmp 73) (.tmp 75) 33 30 (.slice none 0 0) 24 rfl Try.underlying33 info_strs rfl (by decide) (by omega) (.slice (some ad8) (now :: rest).length c) (now :: rest) nx [.slice A6 nx.length c6] (fun _ => True) (fun k_ => True ∧ some k_ ≠ (Value.slice (some ad8) (now :: rest).length c).ownBlock) rfl rfl ?aP (fun _ hk => hk) ?aF ?aO ?aB ?aS ?aL ?_
                case aP => exact Kd.M_row (Kd.R_apartR HN7.out HM7.out (by decide))
                case aF => exact fun _ _ => trivial
                case aO => exact HM7.out
                case aB => exact HQ7.out.b
                case aS => exact HQ7.out.b.size
                case aL => exact hl33
                intro v8 w8 ho hb hg hat
                have hq8 := HQ7.out.keepRow HM7.out hg hb
                change Kd.R kT 30 w8 w.heap.size (fun _ => True) v8 (now :: (rest ++ [nx])) at ho
                change Kq w w8 g 400000 up dd gl (now :: (rest ++ [nx])) _ at hq8
                obtain ⟨rest2, hr2⟩ : ∃ r, r = rest ++ [nx] := ⟨_, rfl⟩
                rw [← hr2] at ho hq8
                have hrl2 : rest2.length ≤ k + 1 := by rw [hr2, List.length_append]; simp; omega
                have HLN2 : Hid (∀ x ∈ now :: rest2, x.length ≤ 50 + (k + 1)) := Lib.hid (by
                  rw [hr2]
                  intro x hx
                  rcases List.mem_cons.1 hx with rfl | hx
                  · have := HLEN.out x (List.mem_cons_self ..); omega
                  · rcases List.mem_append.1 hx with hx | hx
                    · have := HLEN.out x (List.mem_cons_of_mem _ hx); omega
                    · rw [List.mem_singleton.1 hx]; omega)
                obtain ⟨A8', c8', rfl⟩ := Kd.R_slice ho
                have HM8 := Lib.hid ho
                have HQ8 := Lib.hid hq8
                clear ho hb hg hat hq8 hr2 HM7 HN7 HQ7
                go_wp2_with fail
                refine (k_down HQ8.out).mono ?_
                rintro e wv ⟨rfl, rfl⟩
                cases dd with
                | false =>
                  obtain rfl := hdu rfl
                  go_wp2_with fail
                  go_roundg (gout - 1)
                  case measure => have := HGK.out; omega
                  case rel => exact ⟨k + 1, gl, true, A8', c8', now, rest2, by omega, by omega, rfl, rfl, by go_num, by omega, ⟨by have := HGK.out; omega⟩, ⟨HLN2.out⟩, ⟨HM8.out⟩, ⟨HQ8.out.more (by omega)⟩⟩
                | true =>
                  go_wp2_with fail
                  go_roundg (gout - 1)
                  case measure => have := HGK.out; omega
                  case rel => exact ⟨k + 1, gl, false, A8', c8', now, rest2, by omega, by omega, rfl, rfl, by go_num, by omega, ⟨by have := HGK.out; omega⟩, ⟨HLN2.out⟩, ⟨HM8.out⟩, ⟨HQ8.out.drop.more (by omega)⟩⟩
              · clear HN7
                go_wp2_with fail
                refine (k_down HQ7.out).mono ?_
                rintro e wv ⟨rfl, rfl⟩
                cases dd with
                | false =>
                  obtain rfl := hdu rfl
                  go_wp2_with fail
                  go_roundg (gout - 1)
                  case measure => have := HGK.out; omega
                  case rel => exact ⟨k + 1, gl, true, (some ad8), c, now, rest, by omega, by omega, rfl, rfl, by go_num, by omega, ⟨by have := HGK.out; omega⟩, ⟨fun x hx => by have := HLEN.out x hx; omega⟩, ⟨HM7.out⟩, ⟨HQ7.out.more (by omega)⟩⟩
                | true =>
                  go_wp2_with fail
                  go_roundg (gout - 1)
                  case measure => have := HGK.out; omega
                  case rel => exact ⟨k + 1, gl, false, (some ad8), c, now, rest, by omega, by omega, rfl, rfl, by go_num, by omega, ⟨by have := HGK.out; omega⟩, ⟨fun x hx => by have := HLEN.out x hx; omega⟩, ⟨HM7.out⟩, ⟨HQ7.out.drop.more (by omega)⟩⟩
              )
        · as_aux_lemma =>
            subst hw
            go_wp2_with ((with_reducible refine gate_builtin (b := .append) (xs := #[.tmp 79, .tmp 81]) rfl ?_); at_builtin; refine halt_ ?_)
            refine Lib.hid ?_
            obtain ⟨wz, hwz⟩ : ∃ wz, wz = wo.alloc (.cells #[.int .i64 1, .int .i64 f1, .string f2, .slice B2 f3.length c2, .slice D f4.length d2] 36) := ⟨_, rfl⟩
            rw [← hwz] at n0 n1 n2 n3 n4 m1
            rw [← hwz]
            have HBZ : Hid (wz.heap[wo.heap.size]? = some (actObj 1 f1 f2 (.slice B2 f3.length c2) (.slice D f4.length d2))) := Lib.hid (by rw [hwz]; exact HBX.out)
            have HMZ : Hid (Kd.R kT 30 wz w.heap.size (fun _ => True) (.slice (some ad8) (now :: rest).length c) (now :: rest)) := Lib.hid (by rw [hwz]; exact HM1.out)
            have HQZ : Hid (Kq w wz g 400000 up (!up) gl (now :: rest) (1 + (k : Int))) := Lib.hid (by rw [hwz]; exact HQ1.out)
            have HNZ : Hid (Kd.string.C wz B8 now.length now) := Lib.hid (by rw [hwz]; exact HNC.out)
            have HWZ := Lib.hid HQZ.out.b.size
            have HWS : Hid (wo.heap.size + 1 = wz.heap.size) := Lib.hid (by rw [hwz]; exact (size_alloc1 _ _).symm)
            clear hwz HBX HM1 HQ1 HNC
            have h50 : f3.length ≤ 50 := H50.out
            refine Kd.R_append_rows Kd.string (Rr := Kd.string.K w) (w0 := wz) wz.heap.size rfl (.tmp 79) (.tmp 81) 30 9 (.string ⟨#[]⟩) 16 rfl Try.underlying30 info_str rfl (by decide) (by omega) (.slice (some ⟨_, 0, none⟩) 0 0) [] f3 B2 f3.length c2 (fun _ => True) (fun _ => False) rfl rfl ?aO ?aR ?aK (fun _ hk => hk.elim) (fun _ _ => trivial) ?aB ?aS ?aL ?_
            case aR => exact now_C HRS.out (below_alloc HQZ.out.b _)
            case aK => exact (fun _ _ h => h)
            case aO => exact R_lit_nob _ _ (Nat.le_refl _) HWS.out
            case aB => exact below_alloc (Below.refl _ _) _
            case aS => exact (below_alloc (Below.refl _ _) _).size
            case aL => show (0 + f3.length) * 16 ≤ 140737488355328; omega
            intro v6 w6 hR6 hB6 hg6 hat6
            have HB6 := Lib.hid hB6
            have hR7 : Kd.R Kd.string 9 w6 w.heap.size (fun _ => True) v6 f3 := Kd.R_lower hR6 HWZ.out
            clear hR6 hB6 hg6 hat6 n0 n1 n2 n3 n4 m1
            obtain ⟨nx, hnx⟩ : ∃ nx, nx = f3 := ⟨_, rfl⟩
            rw [← hnx] at hR7
            have hnl : nx.length ≤ 51 + k := by rw [hnx]; omega
            obtain ⟨A6, c6, rfl⟩ := Kd.R_slice hR7
            have HN6 := Lib.hid hR7
            have HNX := Lib.hid hnx
            have HM6 := Lib.hid (Kd.R_below HMZ.out HB6.out)
            have HQ6 := Lib.hid (HQZ.out.below HB6.out)
            have HBX6 : Hid (w6.heap[wo.heap.size]? = some (actObj 1 f1 f2 (.slice B2 f3.length c2) (.slice D f4.length d2))) := Lib.hid ((HB6.out.block _ (lt_of_at HBZ.out)).trans HBZ.out)
            clear hR7 hnx HMZ HQZ HBZ HNZ HB6
            obtain ⟨n0, n1, n2, n3, n4⟩ := act_box HBX6.out
            go_wp2_with fail
            refine (k_renew B2 c2 f3 HRS.out hbc HQ6.out (by omega) (by omega) HO3.out (by decide)).mono ?_
            rintro e w7 ⟨code, dd, cand', rfl, ht, hq, hdu, hc⟩
            have HM7 := Lib.hid (told_R HM6.out ht)
            have HN7 := Lib.hid (told_S HN6.out ht)
            have HQ7 := Lib.hid hq
            rw [← HNX.out] at hc
            clear ht hq HM6 HN6 HQ6 HBX6 n0 n1 n2 n3 n4
            rcases hc with ⟨rfl, rfl⟩ | ⟨rfl, rfl⟩ | ⟨hc1, hc2, rfl⟩
            · have HM8 := Lib.hid (R_lit_one w7 w.heap.size HQ7.out.b.size HN7.out)
              have HQ8 := Lib.hid (HQ7.out.below (below_alloc (Below.refl _ _) (.cells #[.slice A6 nx.length c6] 30)))
              clear HM7 HN7 HQ7
              go_wp2_with fail
              refine (k_down HQ8.out).mono ?_
              rintro e wv ⟨rfl, rfl⟩
              cases dd with
              | false =>
                obtain rfl := hdu rfl
                go_wp2_with fail
                go_roundg (gout - 1)
                case measure => have := HGK.out; omega
                case rel => exact ⟨k + 1, gl, true, (some ⟨w7.heap.size, 0, none⟩), 1, nx, [], by omega, by omega, rfl, rfl, by go_num, Nat.zero_le _, ⟨by have := HGK.out; omega⟩, ⟨fun x hx => by rw [List.mem_singleton.1 hx]; omega⟩, ⟨HM8.out⟩, ⟨HQ8.out.more (by omega)⟩⟩
              | true =>
                go_wp2_with fail
                go_roundg (gout - 1)
                case measure => have := HGK.out; omega
                case rel => exact ⟨k + 1, gl, false, (some ⟨w7.heap.size, 0, none⟩), 1, nx, [], by omega, by omega, rfl, rfl, by go_num, Nat.zero_le _, ⟨by have := HGK.out; omega⟩, ⟨fun x hx => by rw [List.mem_singleton.1 hx]; omega⟩, ⟨HM8.out⟩, ⟨HQ8.out.drop.more (by omega)⟩⟩
            · have hl33 : ((now :: rest).length + 1) * 24 ≤ 140737488355328 := by show (rest.length + 1 + 1) * 24 ≤ _; omega
              go_wp2_with ((with_reducible refine gate_builtin (b := .append) (xs := #[.tmp 95, .tmp 97]) rfl ?_); at_builtin; refine halt_ ?_)
              refine Lib.hid ?_
              refine Kd.R_append kT (w0 := w) w.heap.size rfl (.tmp 95) (.tmp 97) 33 30 (.slice none 0 0) 24 rfl Try.underlying33 info_strs rfl (by decide) (by omega) (.slice (some ad8) (now :: rest).length c) (now :: rest) nx [.slice A6 nx.length c6] (fun _ => True) (fun k_ => True ∧ some k_ ≠ (Value.slice (some ad8) (now :: rest).length c).ownBlock) rfl rfl ?aP (fun _ hk => hk) ?aF ?aO ?aB ?aS ?aL ?_
              case aP => exact Kd.M_row (Kd.R_apartR HN7.out HM7.out (by decide))
              case aF => exact fun _ _ => trivial
              case aO => exact HM7.out
              case aB => exact HQ7.out.b
              case aS => exact HQ7.out.b.size
              case aL => exact hl33
              intro v8 w8 ho hb hg hat
              have hq8 := HQ7.out.keepRow HM7.out hg hb
              change Kd.R kT 30 w8 w.heap.size (fun _ => True) v8 (now :: (rest ++ [nx])) at ho
              change Kq w w8 g 400000 up dd gl (now :: (rest ++ [nx])) _ at hq8
              obtain ⟨rest2, hr2⟩ : ∃ r, r = rest ++ [nx] := ⟨_, rfl⟩
              rw [← hr2] at ho hq8
              have hrl2 : rest2.length ≤ k + 1 := by rw [hr2, List.length_append]; simp; omega
              have HLN2 : Hid (∀ x ∈ now :: rest2, x.length ≤ 50 + (k + 1)) := Lib.hid (by
                rw [hr2]
                intro x hx
                rcases List.mem_cons.1 hx with rfl | hx
                · have := HLEN.out x (List.mem_cons_self ..); omega
                · rcases List.mem_append.1 hx with hx | hx
                  · have := HLEN.out x (List.mem_cons_of_mem _ hx); omega
                  · rw [List.mem_singleton.1 hx]; omega)
              obtain ⟨A8', c8', rfl⟩ := Kd.R_slice ho
              have HM8 := Lib.hid ho
              have HQ8 := Lib.hid hq8
              clear ho hb hg hat hq8 hr2 HM7 HN7 HQ7
              go_wp2_with fail
              refine (k_down HQ8.out).mono ?_
              rintro e wv ⟨rfl, rfl⟩
              cases dd with
              | false =>
                obtain rfl := hdu rfl
                go_wp2_with fail
                go_roundg (gout - 1)
                case measure => have := HGK.out; omega
                case rel => exact ⟨k + 1, gl, true, A8', c8', now, rest2, by omega, by omega, rfl, rfl, by go_num, by omega, ⟨by have := HGK.out; omega⟩, ⟨HLN2.out⟩, ⟨HM8.out⟩, ⟨HQ8.out.more (by omega)⟩⟩
              | true =>
                go_wp2_with fail
                go_roundg (gout - 1)
                case measure => have := HGK.out; omega
                case rel => exact ⟨k + 1, gl, false, A8', c8', now, rest2, by omega, by omega, rfl, rfl, by go_num, by omega, ⟨by have := HGK.out; omega⟩, ⟨HLN2.out⟩, ⟨HM8.out⟩, ⟨HQ8.out.drop.more (by omega)⟩⟩
            · clear HN7
              go_wp2_with fail
              refine (k_down HQ7.out).mono ?_
              rintro e wv ⟨rfl, rfl⟩
              cases dd with
              | false =>
                obtain rfl := hdu rfl
                go_wp2_with fail
                go_roundg (gout - 1)
                case measure => have := HGK.out; omega
                case rel => exact ⟨k + 1, gl, true, (some ad8), c, now, rest, by omega, by omega, rfl, rfl, by go_num, by omega, ⟨by have := HGK.out; omega⟩, ⟨fun x hx => by have := HLEN.out x hx; omega⟩, ⟨HM7.out⟩, ⟨HQ7.out.more (by omega)⟩⟩
              | true =>
                go_wp2_with fail
                go_roundg (gout - 1)
                case measure => have := HGK.out; omega
                case rel => exact ⟨k + 1, gl, false, (some ad8), c, now, rest, by omega, by omega, rfl, rfl, by go_num, by omega, ⟨by have := HGK.out; omega⟩, ⟨fun x hx => by have := HLEN.out x hx; omega⟩, ⟨HM7.out⟩, ⟨HQ7.out.drop.more (by omega)⟩⟩
        · as_aux_lemma =>
            subst hw
            go_wp2_with fail
            obtain ⟨wz, hwz⟩ : ∃ wz, wz = wo.alloc (.cells #[.int .i64 2, .int .i64 f1, .string f2, .slice B2 f3.length c2, .slice D f4.length d2] 36) := ⟨_, rfl⟩
            rw [← hwz] at n0 n1 n2 n3 n4 m1
            rw [← hwz]
            have HBZ : Hid (wz.heap[wo.heap.size]? = some (actObj 2 f1 f2 (.slice B2 f3.length c2) (.slice D f4.length d2))) := Lib.hid (by rw [hwz]; exact HBX.out)
            have HMZ : Hid (Kd.R kT 30 wz w.heap.size (fun _ => True) (.slice (some ad8) (now :: rest).length c) (now :: rest)) := Lib.hid (by rw [hwz]; exact HM1.out)
            have HQZ : Hid (Kq w wz g 400000 up (!up) gl (now :: rest) (1 + (k : Int))) := Lib.hid (by rw [hwz]; exact HQ1.out)
            have HNZ : Hid (Kd.string.C wz B8 now.length now) := Lib.hid (by rw [hwz]; exact HNC.out)
            have HWZ := Lib.hid HQZ.out.b.size
            have HWS : Hid (wo.heap.size + 1 = wz.heap.size) := Lib.hid (by rw [hwz]; exact (size_alloc1 _ _).symm)
            clear hwz HBX HM1 HQ1 HNC
            refine (k_fuel f1 o1.2 HQZ.out).mono ?_
            rintro e w7 ⟨rfl, ht, hq⟩
            have HM7 := Lib.hid (told_R HMZ.out ht)
            have HQ7 := Lib.hid hq
            clear ht hq HMZ HQZ HBZ HNZ n0 n1 n2 n3 n4 m1
            go_wp2_with fail
            refine (k_down HQ7.out).mono ?_
            rintro e wv ⟨rfl, rfl⟩
            cases up with
            | true =>
              rw [show (!true) = false from rfl]
              go_wp2_with fail
              go_roundg (gout - 1)
              case measure => have := HGK.out; omega
              case rel => exact ⟨k + 1, gl, true, (some ad8), c, now, rest, by omega, by omega, rfl, rfl, by go_num, by omega, ⟨by have := HGK.out; omega⟩, ⟨fun x hx => by have := HLEN.out x hx; omega⟩, ⟨HM7.out⟩, ⟨HQ7.out.more (by omega)⟩⟩
            | false =>
              rw [show (!false) = true from rfl]
              go_wp2_with fail
              go_roundg (gout - 1)
              case measure => have := HGK.out; omega
              case rel => exact ⟨k + 1, gl, false, (some ad8), c, now, rest, by omega, by omega, rfl, rfl, by go_num, by omega, ⟨by have := HGK.out; omega⟩, ⟨fun x hx => by have := HLEN.out x hx; omega⟩, ⟨HM7.out⟩, ⟨HQ7.out.more (by omega)⟩⟩
        · as_aux_lemma =>
            subst hw
            go_wp2_with fail
            obtain ⟨wz, hwz⟩ : ∃ wz, wz = wo.alloc (.cells #[.int .i64 3, .int .i64 f1, .string f2, .slice B2 f3.length c2, .slice D f4.length d2] 36) := ⟨_, rfl⟩
            rw [← hwz] at n0 n1 n2 n3 n4 m1
            rw [← hwz]
            have HBZ : Hid (wz.heap[wo.heap.size]? = some (actObj 3 f1 f2 (.slice B2 f3.length c2) (.slice D f4.length d2))) := Lib.hid (by rw [hwz]; exact HBX.out)
            have HMZ : Hid (Kd.R kT 30 wz w.heap.size (fun _ => True) (.slice (some ad8) (now :: rest).length c) (now :: rest)) := Lib.hid (by rw [hwz]; exact HM1.out)
            have HQZ : Hid (Kq w wz g 400000 up (!up) gl (now :: rest) (1 + (k : Int))) := Lib.hid (by rw [hwz]; exact HQ1.out)
            have HNZ : Hid (Kd.string.C wz B8 now.length now) := Lib.hid (by rw [hwz]; exact HNC.out)
            have HWZ := Lib.hid HQZ.out.b.size
            have HWS : Hid (wo.heap.size + 1 = wz.heap.size) := Lib.hid (by rw [hwz]; exact (size_alloc1 _ _).symm)
            clear hwz HBX HM1 HQ1 HNC
            refine (k_fall f4 D d2 hdc HQZ.out (by omega) (by decide) HRD.out HFAR.out).mono ?_
            rintro e w7 ⟨rfl, ht, hf⟩
            have HM7 := Lib.hid (told_R HMZ.out ht)
            have HF7 := Lib.hid hf
            clear ht hf HMZ HQZ HBZ HNZ n0 n1 n2 n3 n4 m1
            go_wp2_with fail
            refine (k_open HF7.out (by decide)).mono ?_
            rintro e w8 ⟨gl2, v8, rec, rfl, ht, hrec, hq, hR⟩
            have HM8 := Lib.hid (told_R HM7.out ht)
            have HREC := Lib.hid hrec
            have HQ8 := Lib.hid hq
            have HR8 := Lib.hid hR
            obtain ⟨A8, c9, rfl⟩ := Kd.R_slice hR
            have hrl8 : rec.length ≤ 50 + k := HLEN.out rec hrec
            clear ht hrec hq hR HM7 HF7
            go_wp2_with fail
            go_loopg [17, 119] (rest.length + 2) (fun gi v17 v119 wr => ∃ (j : Nat) (fb : Bool), j ≤ rest.length + 1 ∧ v17 = .bool fb ∧ v119 = .int .i64 (j : Int) ∧ Aside0 (j + gi = rest.length + 2) ∧ Aside0 (∀ i (h : i < (now :: rest).length), i < j → (now :: rest)[i] = rec → fb = true) ∧ Aside0 (Kd.R kT 30 wr w.heap.size (fun _ => True) (.slice (some ad8) (now :: rest).length c) (now :: rest)) ∧ Aside0 (Kd.R Kd.string 9 wr w.heap.size (fun _ => True) (.slice A8 rec.length c9) rec) ∧ Aside0 (Kq w wr g 400000 true false gl2 [rec] (1 + (k : Int))))
            case atStart => exact ⟨0, false, Nat.zero_le _, rfl, rfl, ⟨by omega⟩, ⟨fun i h h0 => absurd h0 (Nat.not_lt_zero _)⟩, ⟨HM8.out⟩, ⟨HR8.out⟩, ⟨HQ8.out⟩⟩
            case round =>
              obtain ⟨wy, rfl⟩ : ∃ wy : World, wy = wr := ⟨_, rfl⟩
              obtain ⟨j, fb, hj, rfl, rfl, ⟨hgi⟩, ⟨hfd⟩, ⟨hm⟩, ⟨hr⟩, ⟨hq⟩⟩ := hrel
              have HGI := Lib.hid hgi
              have HFD := Lib.hid hfd
              have HM9 := Lib.hid hm
              have HR9 := Lib.hid hr
              have HQ9 := Lib.hid hq
              clear hgi hfd hm hr hq HM8 HR8 HQ8
              rcases (show j < rest.length + 1 ∨ j = rest.length + 1 by omega) with hjl | hjl
              · obtain ⟨ad9, B9, cb9, e9, q0, hbc9, hC9⟩ := cand_at (Kd.R_reads' HM9.out).2.2 j hjl
                obtain rfl : ad8 = ad9 := by injection e9
                have hyl := HLEN.out (now :: rest)[j] (List.getElem_mem hjl)
                obtain ⟨y, hy⟩ : ∃ y, y = (now :: rest)[j] := ⟨_, rfl⟩
                rw [← hy] at q0 hbc9 hC9 hyl
                have HY := Lib.hid hy
                have HC9 := Lib.hid hC9
                clear hy hC9 e9
                cases fb with
                | true =>
                  go_wp2_with fail
                  go_roundg (gk - 1)
                  case measure => have := HGI.out; omega
                  case rel => exact ⟨j + 1, true, by omega, rfl, by go_num, ⟨by have := HGI.out; omega⟩, ⟨fun _ _ _ _ => rfl⟩, ⟨HM9.out⟩, ⟨HR9.out⟩, ⟨HQ9.out⟩⟩
                | false =>
                  go_wp2_with fail
                  refine (same_tells y rec (by omega) B9 A8 cb9 c9 wy HC9.out hbc9 (Kd.R_reads' HR9.out).2.2 (Kd.R_reads' HR9.out).2.1).mono ?_
                  rintro e wx ⟨r, rfl, hr, ⟨m9, rfl⟩⟩
                  have HRR := Lib.hid hr
                  have HMA := Lib.hid (Kd.R_drewN HM9.out m9)
                  have HRA := Lib.hid (Kd.R_drewN HR9.out m9)
                  have HQA := Lib.hid (HQ9.out.below (pw_below_drewN (Below.refl _ _) m9))
                  clear hr HM9 HR9 HQ9 HC9 q0
                  generalize wy.drewN m9 = wx at *
                  go_wp2_with fail
                  go_roundg (gk - 1)
                  case measure => have := HGI.out; omega
                  case rel => exact ⟨j + 1, r, by omega, rfl, by go_num, ⟨by have := HGI.out; omega⟩, ⟨fun i h hi he => by
                    rcases (show i < j ∨ i = j by omega) with hij | rfl
                    · have := HFD.out i h hij he; cases this
                    · exact HRR.out (HY.out.trans he)⟩, ⟨HMA.out⟩, ⟨HRA.out⟩, ⟨HQA.out⟩⟩
              · subst hjl
                obtain rfl : fb = true := by
                  obtain ⟨i, hi, he⟩ := List.getElem_of_mem HREC.out
                  exact HFD.out i hi (by simpa using hi) he
                have HMB := Lib.hid (R_lit_one wy w.heap.size HQ9.out.b.size HR9.out)
                have HQB := Lib.hid (HQ9.out.below (below_alloc (Below.refl _ _) (.cells #[.slice A8 rec.length c9] 30)))
                clear HM9 HR9 HFD
                go_wp2_with fail
                refine (k_down HQB.out).mono ?_
                rintro e wv ⟨rfl, rfl⟩
                go_wp2_with fail
                go_roundg (gout - 1)
                case measure => have := HGK.out; omega
                case rel => exact ⟨k + 1, gl2, true, some ⟨wy.heap.size, 0, none⟩, 1, rec, [], by omega, by omega, rfl, rfl, by go_num, Nat.zero_le _, ⟨by have := HGK.out; omega⟩, ⟨fun x hx => by rw [List.mem_singleton.1 hx]; omega⟩, ⟨HMB.out⟩, ⟨HQB.out.more (by omega)⟩⟩
        · as_aux_lemma =>
            go_wp2_with fail
            obtain ⟨wz, hwz⟩ : ∃ wz, wz = wo.alloc (.cells #[.int .i64 f0, .int .i64 f1, .string f2, .slice B2 f3.length c2, .slice D f4.length d2] 36) := ⟨_, rfl⟩
            rw [← hwz] at n0 n1 n2 n3 n4 m1
            rw [← hwz]
            have HBZ : Hid (wz.heap[wo.heap.size]? = some (actObj f0 f1 f2 (.slice B2 f3.length c2) (.slice D f4.length d2))) := Lib.hid (by rw [hwz]; exact HBX.out)
            have HMZ : Hid (Kd.R kT 30 wz w.heap.size (fun _ => True) (.slice (some ad8) (now :: rest).length c) (now :: rest)) := Lib.hid (by rw [hwz]; exact HM1.out)
            have HQZ : Hid (Kq w wz g 400000 up (!up) gl (now :: rest) (1 + (k : Int))) := Lib.hid (by rw [hwz]; exact HQ1.out)
            have HNZ : Hid (Kd.string.C wz B8 now.length now) := Lib.hid (by rw [hwz]; exact HNC.out)
            have HWZ := Lib.hid HQZ.out.b.size
            have HWS : Hid (wo.heap.size + 1 = wz.heap.size) := Lib.hid (by rw [hwz]; exact (size_alloc1 _ _).symm)
            clear hwz HBX HM1 HQ1 HNC
            clear HBZ HNZ n0 n1 n2 n3 n4 m1
            refine (k_down HQZ.out).mono ?_
            rintro e wv ⟨rfl, rfl⟩
            cases up with
            | true =>
              rw [show (!true) = false from rfl]
              go_wp2_with fail
              go_roundg (gout - 1)
              case measure => have := HGK.out; omega
              case rel => exact ⟨k + 1, gl, true, (some ad8), c, now, rest, by omega, by omega, rfl, rfl, by go_num, by omega, ⟨by have := HGK.out; omega⟩, ⟨fun x hx => by have := HLEN.out x hx; omega⟩, ⟨HMZ.out⟩, ⟨HQZ.out.more (by omega)⟩⟩
            | false =>
              rw [show (!false) = true from rfl]
              go_wp2_with fail
              go_roundg (gout - 1)
              case measure => have := HGK.out; omega
              case rel => exact ⟨k + 1, gl, false, (some ad8), c, now, rest, by omega, by omega, rfl, rfl, by go_num, by omega, ⟨by have := HGK.out; omega⟩, ⟨fun x hx => by have := HLEN.out x hx; omega⟩, ⟨HMZ.out⟩, ⟨HQZ.out.more (by omega)⟩⟩
    · subst hlt
      have HOO := Lib.hid HQ.out.b
      go_wp2_with fail
      go_ret
      exact ⟨rfl, HOO.out⟩
set_option maxRecDepth 100000 in
theorem walk_LogKeeps {H : Type} {enc : TypeId × Value → H} (W : World) (v0 : Value) (d0 : DataW H) (p0 : List MemPlace)
    (h0 : DataW.Trod enc Try.prog W 0 (fun _ => true) true 22 v0 d0 p0) {base : Nat} (u0 : Value.okWide Try.prog W .any base 22 v0) (z0 : ∀ n ∈ DataW.weights Try.prog 22 d0, n ≤ reachBytes) :
    Calls Try.prog 3 #[v0] W fun e W' => e = .returned (.bool true) ∧ Below W.heap.size W W' := by
  obtain ⟨A, c, l, rfl, hl, hC, hok, hll⟩ := acts_open W v0 d0 p0 h0 u0 z0
  exact keeps_calls A c l hl hok hll W hC
end Go.Proofs.Ytccdmedhkbabpaa

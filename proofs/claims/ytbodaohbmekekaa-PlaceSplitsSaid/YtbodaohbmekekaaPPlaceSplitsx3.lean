/- Contracts of Go functions and what each computes, as plain Lean functions: written by a program of this session over the kit's own print. Conditions: those that each theorem names. -/
import Derived.Test.YtbodaohbmekekaaPPlaceSplitsx0
import Derived.Test.YtbodaohbmekekaaPPlaceSplitsx1
import Derived.Test.YtbodaohbmekekaaPPlaceSplitsx2
namespace Go.Proofs.Ytbodaohbmekekaa.PPlaceSplits
open Go.RowKit Go.Proofs.YtbodaohbmekekaaW.PrintWords Go.Proofs.YtbodaohbmekekaaW.PrintLast Go.Proofs.YtbodaohbmekekaaW.PrintMore
attribute [local go_sem] max2_int min2_int max_two min_two max_three min_three max_four min_four   -- for this text's walks alone
set_option linter.unusedVariables false
set_option linter.unusedSimpArgs false

attribute [local go_sem high] eqA44
/-! ### place_Parts: function 17 -/
def place_Parts.l0 : Nat → Int → List (List (S44)) → Int → Int → Option (Int)
  | 0, _, _, _, _ => none
  | k + 1, x5, x10, x11, x12 => if x12 < x11 then (if 0 ≤ x12 then (if x12 < (x10.length : Int) then (if ((rd_L3 x10 x12).length : Int) > 0 then (place_Parts.l0 k (Go.bits .or .u8 x5 (shl .u8 1 x12)) x10 x11 (wrap64 (x12 + 1))) else (place_Parts.l0 k x5 x10 x11 (wrap64 (x12 + 1)))) else (none)) else (none)) else (some x5)
def place_Parts.f (k : Nat) (l0 : List (S44)) (a1 : Int) : Option (Int) := (place_Split.f k l0 a1).bind fun t123 => (place_Parts.l0 k 0 t123 (t123.length : Int) 0)
theorem place_Parts.mono_l : ∀ k, (∀ y0 y1 y2 y3, LeO (place_Parts.l0 k y0 y1 y2 y3) (place_Parts.l0 (k + 1) y0 y1 y2 y3))
  | 0 => fun _ _ _ _ r h => by simp [place_Parts.l0] at h
  | k + 1 => by
    have ih0 := place_Parts.mono_l k
    · intro y0 y1 y2 y3
      unfold place_Parts.l0
      repeat' first
      | (with_reducible exact ih0 _ _ _ _)
      | (with_reducible exact place_Split.mono _ _ _)
      | (with_reducible exact LeO.refl _)
      | (with_reducible exact LeO.none _)
      | (with_reducible refine LeO.ite ?_ ?_)
      | (with_reducible refine LeO.bind ?_ (fun _ => ?_))
      | exact ih0 _ _ _ _
      | exact place_Split.mono _ _ _
      | exact LeO.none _
      | refine LeO.ite ?_ ?_
      | refine LeO.bind ?_ (fun _ => ?_)
theorem place_Parts.mono : ∀ a0 a1 k, LeO (place_Parts.f k a0 a1) (place_Parts.f (k + 1) a0 a1) := by
  intro a0 a1 k
  have ih0 := place_Parts.mono_l k
  unfold place_Parts.f
  repeat' first
      | (with_reducible exact ih0 _ _ _ _)
      | (with_reducible exact place_Split.mono _ _ _)
      | (with_reducible exact LeO.refl _)
      | (with_reducible exact LeO.none _)
      | (with_reducible refine LeO.ite ?_ ?_)
      | (with_reducible refine LeO.bind ?_ (fun _ => ?_))
      | exact ih0 _ _ _ _
      | exact place_Split.mono _ _ _
      | exact LeO.none _
      | refine LeO.ite ?_ ?_
      | refine LeO.bind ?_ (fun _ => ?_)
set_option maxHeartbeats 8000000 in
set_option maxRecDepth 100000 in
theorem place_Parts.calls (k : Nat) (A0 : Option Addr) (c0 : Nat) (l0 : List (S44)) (a1 : Int) (r : Int) (w : World) (hr0 : Kd.C k44 w A0 l0.length l0) (hc0 : l0.length ≤ c0) (h : place_Parts.f k l0 a1 = some r) :
    Calls Try.prog 17 #[.slice A0 l0.length c0, .int .i64 a1] w fun e w' => e = .returned (.int .u8 r) ∧ Below w.heap.size w w' := by
  have HR0 := Aside0.mk hr0
  have HC0 := Aside0.mk hc0
  clear hr0 hc0
  have HB := Aside0.mk (Below.refl w.heap.size w)
  have H : ((place_Split.f k l0 a1).bind fun t123 => (place_Parts.l0 k 0 t123 (t123.length : Int) 0)) = some r := h
  clear h
  replace H := Option.bind_eq_some_iff.mp H
  obtain ⟨t123, A30, H⟩ := H
  replace H : (place_Parts.l0 k 0 t123 (t123.length : Int) 0) = some r := H
  have A3 := Aside0.mk A30
  clear A30
  have H' := Aside0.mk H
  clear H
  go_enter Try.func17, Try.ntmps17
  go_wp2_with (first | ((with_reducible refine gate_callee (f := 15) rfl ?_); refine goesL_ (some 10) rfl rfl Try.func15 (by kernel_rfl) rfl #[.slice A0 l0.length c0, .int .i64 a1] rfl (by (try simp only [List.map_toArray, List.map_cons, List.map_nil]); first | done | rfl | (simp only [List.length_drop, List.length_take]; rfl)) ?_; (with_reducible refine (place_Split.calls k _ _ l0 a1 t123 _ ?side1 ?side2 A3.out).mono ?_); (case side1 => repeat (first | exact HR0.out | (with_reducible refine Kd.C_alloc ?_ _) | (with_reducible refine Kd.C_drewN ?_ _) | (with_reducible refine Kd.C_drew ?_))); (case side2 => exact HC0.out); rintro e w4 ⟨v124, rfl, ho0, hb⟩; refine ⟨_, rfl, ?_⟩; have n0_ := Aside0.mk (Kd.S_lower ho0 (below_size (by repeat (first | (with_reducible first | exact HB.out | apply below_alloc | apply pw_below_drewN | apply below_drew1) | exact HB.out)))); have n1_ := Aside0.mk (below_step (by repeat (first | (with_reducible first | exact HB.out | apply below_alloc | apply pw_below_drewN | apply below_drew1) | exact HB.out)) hb); clear HB; have HO125 := n0_; have HB := n1_; clear n0_ n1_; (try clear hb); (try clear hb2); (try clear hk); (try clear hi); (try clear ho0); obtain ⟨Ao5, co5, eo5⟩ := Kd.S_slice HO125.out; subst eo5))
  go_loopg [5, 12] k (fun kq v5 v12 w' => ∃ (x5_1 : Int) (x12_1 : Int), v5 = .int .u8 x5_1 ∧ v12 = .int .i64 x12_1 ∧ Aside0 (place_Parts.l0 kq x5_1 t123 (t123.length : Int) x12_1 = some r) ∧ Aside0 (kq ≤ k) ∧ Aside0 (Kd.S (Kd.slice 44 k44) 40 w' w.heap.size (fun _ => True) (.slice Ao5 t123.length co5) t123) ∧ Aside0 (Below w.heap.size w w'))
  case atStart => exact ⟨(0), (0), (by first | rfl | (simp; done) | (simp [*]; done)), (by first | rfl | (simp; done) | (simp [*]; done)), H', ⟨Nat.le_refl _⟩, ⟨by (with_reducible repeat (first | apply Kd.S_alloc | apply Kd.S_drewN | apply Kd.S_drew)); exact HO125.out⟩, ⟨by repeat (first | (with_reducible first | exact HB.out | apply below_alloc | apply pw_below_drewN | apply below_drew1) | exact HB.out)⟩⟩
  case round =>
    clear H'
    try clear c1
    try clear p2
    obtain ⟨x5_1, x12_1, rfl, rfl, HA, HK1, HO_10, HB⟩ := hrel
    cases gk with
    | zero => exact absurd HA.out (by simp [place_Parts.l0])
    | succ k1 =>
      have H := HA.out
      clear HA
      simp only [place_Parts.l0] at H
      by_cases c6 : x12_1 < (t123.length : Int)
      · rw [if_pos c6] at H
        have c6b0 : decide (x12_1 < (t123.length : Int)) = true := decide_eq_true c6
        clear c6
        by_cases c7 : 0 ≤ x12_1
        · rw [if_pos c7] at H
          have c7b0 : decide (0 ≤ x12_1) = true := decide_eq_true c7
          clear c7
          by_cases c8 : x12_1 < (t123.length : Int)
          · rw [if_pos c8] at H
            have c8b0 : decide (x12_1 < (t123.length : Int)) = true := decide_eq_true c8
            clear c8
            by_cases c9 : ((rd_L3 t123 x12_1).length : Int) > 0
            · rw [if_pos c9] at H
              have c9b0 : decide (0 < ((rd_L3 t123 x12_1).length : Int)) = true := decide_eq_true c9
              have c9b1 : decide (0 < (rd_L3 t123 x12_1).length) = true := decide_eq_true (by omega)
              clear c9
              have c10b0 := eq_true (of_decide_eq_true (by first | (with_reducible assumption) | assumption) : 0 ≤ x12_1)
              obtain ⟨ji11, hji11⟩ : ∃ j_ : Int, (shl .u8 1 x12_1) = j_ := ⟨_, rfl⟩
              replace H : (place_Parts.l0 k1 (Go.bits .or .u8 x5_1 (ji11)) t123 (t123.length : Int) (wrap64 (x12_1 + 1))) = some r := by first | (rw [hji11] at H; exact H) | (simp only [hji11] at H ⊢; exact H)
              have hji11_ : (IntKind.u8.wrap (1 * 2 ^ min x12_1.toNat 8)) = ji11 := hji11
              have hji11z : x12_1 ≤ 8 → (IntKind.u8.wrap (1 * 2 ^ x12_1.toNat)) = ji11 := shl_small hji11
              have hji11u : (IntKind.u8.wrap (2 ^ min x12_1.toNat 8)) = ji11 := by have h_ := hji11_; rw [Int.one_mul] at h_; exact h_
              have hji11v : x12_1 ≤ 8 → (IntKind.u8.wrap (2 ^ x12_1.toNat)) = ji11 := fun hle_ => by have h_ := hji11z hle_; rw [Int.one_mul] at h_; exact h_
              have H' := Aside0.mk H
              clear H
              have p126 : 0 ≤ (x12_1 : Int) := of_decide_eq_true (by first | (with_reducible assumption) | assumption)
              have q126 : x12_1 < (t123.length : Int) := of_decide_eq_true (by first | (with_reducible assumption) | assumption)
              obtain ⟨ad126, A126_0, c126_0, e126, hx126_0, hl126_0, hi126_0⟩ := at_L3 (Kd.S_reads' HO_10.out).2.2 x12_1 p126 q126
              cases e126
              obtain ⟨ce126, hce126, hMe126, hcc126⟩ := Kd.S_get HO_10.out [] x12_1 p126 (by first | exact q126 | exact of_decide_eq_true (by first | (with_reducible assumption) | assumption) | (have e_ := (Kd.S_reads' HO_10.out).1; omega))
              obtain ⟨ve126_0, rfl, ge126_0⟩ := hMe126
              have hv126_0 := hcc126 0 _ rfl
              rw [Nat.add_zero, show ((Kd.slice 44 k44)).sz = 1 from rfl, Nat.mul_one] at hv126_0
              replace hv126_0 := Option.some.inj (hv126_0.symm.trans hx126_0)
              rw [hv126_0] at ge126_0
              have HL126_0 := Aside0.mk (show Kd.R k44 44 _ _ _ _ (rd_L3 t123 x12_1) from ge126_0)
              clear hv126_0 ge126_0
              clear hcc126 hce126
              have HR126_0 := Aside0.mk hi126_0
              have HC126_0 := Aside0.mk hl126_0
              clear hi126_0 hl126_0
              replace p126 := eq_true p126
              replace q126 := eq_true q126
              go_wp2
              go_roundg k1
              case measure => have := HK1.out; omega
              case rel => exact ⟨(Go.bits .or .u8 x5_1 (ji11)), (wrap64 (x12_1 + 1)), (by first | rfl | (simp; done) | (simp only [← hji11] <;> (first | rfl | simp)) | (simp [*]; done)), (by first | rfl | (simp; done) | (simp [*]; done)), H', ⟨by have := HK1.out; omega⟩, ⟨by (with_reducible repeat (first | apply Kd.S_alloc | apply Kd.S_drewN | apply Kd.S_drew)); exact HO_10.out⟩, ⟨by repeat (first | (with_reducible first | exact HB.out | apply below_alloc | apply pw_below_drewN | apply below_drew1) | exact HB.out)⟩⟩
            · rw [if_neg c9] at H
              have c9b0 : decide (0 < ((rd_L3 t123 x12_1).length : Int)) = false := decide_eq_false c9
              have c9b1 : decide (0 < (rd_L3 t123 x12_1).length) = false := decide_eq_false (by omega)
              clear c9
              have H' := Aside0.mk H
              clear H
              have p126 : 0 ≤ (x12_1 : Int) := of_decide_eq_true (by first | (with_reducible assumption) | assumption)
              have q126 : x12_1 < (t123.length : Int) := of_decide_eq_true (by first | (with_reducible assumption) | assumption)
              obtain ⟨ad126, A126_0, c126_0, e126, hx126_0, hl126_0, hi126_0⟩ := at_L3 (Kd.S_reads' HO_10.out).2.2 x12_1 p126 q126
              cases e126
              obtain ⟨ce126, hce126, hMe126, hcc126⟩ := Kd.S_get HO_10.out [] x12_1 p126 (by first | exact q126 | exact of_decide_eq_true (by first | (with_reducible assumption) | assumption) | (have e_ := (Kd.S_reads' HO_10.out).1; omega))
              obtain ⟨ve126_0, rfl, ge126_0⟩ := hMe126
              have hv126_0 := hcc126 0 _ rfl
              rw [Nat.add_zero, show ((Kd.slice 44 k44)).sz = 1 from rfl, Nat.mul_one] at hv126_0
              replace hv126_0 := Option.some.inj (hv126_0.symm.trans hx126_0)
              rw [hv126_0] at ge126_0
              have HL126_0 := Aside0.mk (show Kd.R k44 44 _ _ _ _ (rd_L3 t123 x12_1) from ge126_0)
              clear hv126_0 ge126_0
              clear hcc126 hce126
              have HR126_0 := Aside0.mk hi126_0
              have HC126_0 := Aside0.mk hl126_0
              clear hi126_0 hl126_0
              replace p126 := eq_true p126
              replace q126 := eq_true q126
              go_wp2
              go_roundg k1
              case measure => have := HK1.out; omega
              case rel => exact ⟨(x5_1), (wrap64 (x12_1 + 1)), (by first | rfl | (simp; done) | (simp [*]; done)), (by first | rfl | (simp; done) | (simp [*]; done)), H', ⟨by have := HK1.out; omega⟩, ⟨by (with_reducible repeat (first | apply Kd.S_alloc | apply Kd.S_drewN | apply Kd.S_drew)); exact HO_10.out⟩, ⟨by repeat (first | (with_reducible first | exact HB.out | apply below_alloc | apply pw_below_drewN | apply below_drew1) | exact HB.out)⟩⟩
          · rw [if_neg c8] at H
            exact absurd H (by simp)
        · rw [if_neg c7] at H
          exact absurd H (by simp)
      · rw [if_neg c6] at H
        have c6b0 : decide (x12_1 < (t123.length : Int)) = false := decide_eq_false c6
        clear c6
        obtain rfl := Option.some.inj H
        go_wp2
        go_ret
        exact ⟨by first | rfl | (simp [errW_none, errW_some] <;> rfl) | (simp [*, errW_none, errW_some] <;> rfl), by repeat (first | (with_reducible first | exact HB.out | apply below_alloc | apply pw_below_drewN | apply below_drew1) | exact HB.out)⟩

/-! ### dovecotelaw13_PlaceSplits: function 7 -/
mutual
def dovecotelaw13_PlaceSplits.l0 : Nat → List (S44) → Int → List (List (S44)) → List (List (S44)) → Int → Int → Int → Option (Bool)
  | 0, _, _, _, _, _, _, _ => none
  | k + 1, x0, x1, x5, x6, x7, x27, x28 => if x28 < x27 then (if 0 ≤ x28 then (if x28 < (x5.length : Int) then (if x28 < (x6.length : Int) then (if ((rd_L3 x5 x28).length : Int) = ((rd_L3 x6 x28).length : Int) then (dovecotelaw13_PlaceSplits.l1 k x0 x1 x5 x6 x7 x28 x27 x28 ((rd_L3 x5 x28).length : Int) 0) else (some false)) else (none)) else (none)) else (none)) else ((place_Parts.f k x0 x1).bind fun t134 => (some (t134 == x7)))
def dovecotelaw13_PlaceSplits.l1 : Nat → List (S44) → Int → List (List (S44)) → List (List (S44)) → Int → Int → Int → Int → Int → Int → Option (Bool)
  | 0, _, _, _, _, _, _, _, _, _, _ => none
  | k + 1, x0, x1, x5, x6, x7, x8, x27, x28, x46, x47 => if x47 < x46 then (if 0 ≤ x8 then (if x8 < (x5.length : Int) then (if 0 ≤ x47 then (if x47 < ((rd_L3 x5 x8).length : Int) then (if x8 < (x6.length : Int) then (if x47 < ((rd_L3 x6 x8).length : Int) then (if (!((((rd_T44 (rd_L3 x5 x8) x47).f0).toList) == (((rd_T44 (rd_L3 x6 x8) x47).f0).toList)) || (!((((rd_T44 (rd_L3 x5 x8) x47).f1).toList) == (((rd_T44 (rd_L3 x6 x8) x47).f1).toList)) || (!(((rd_T44 (rd_L3 x5 x8) x47).f2) == ((rd_T44 (rd_L3 x6 x8) x47).f2))))) = true then (some false) else (dovecotelaw13_PlaceSplits.l1 k x0 x1 x5 x6 (Go.bits .or .u8 x7 (shl .u8 1 x8)) x8 x27 x28 x46 (wrap64 (x47 + 1)))) else (none)) else (none)) else (none)) else (none)) else (none)) else (none)) else (dovecotelaw13_PlaceSplits.l0 k x0 x1 x5 x6 x7 x27 (wrap64 (x28 + 1)))
end
def dovecotelaw13_PlaceSplits.f (k : Nat) (l0 : List (S44)) (a1 : Int) : Option (Bool) := (dovecotelaw13_awake.f).bind fun t127 => (if t127 = true then (if (l0.length : Int) > 1000 then (some true) else ((place_Split.f k l0 a1).bind fun t128 => ((dovecoteref13_Split.f k l0 a1).bind fun t131 => (if (t128.length : Int) = (t131.length : Int) then (dovecotelaw13_PlaceSplits.l0 k l0 a1 t128 t131 0 (t128.length : Int) 0) else (some false))))) else (some false))
theorem dovecotelaw13_PlaceSplits.mono_l : ∀ k, (∀ y0 y1 y2 y3 y4 y5 y6, LeO (dovecotelaw13_PlaceSplits.l0 k y0 y1 y2 y3 y4 y5 y6) (dovecotelaw13_PlaceSplits.l0 (k + 1) y0 y1 y2 y3 y4 y5 y6)) ∧ (∀ y0 y1 y2 y3 y4 y5 y6 y7 y8 y9, LeO (dovecotelaw13_PlaceSplits.l1 k y0 y1 y2 y3 y4 y5 y6 y7 y8 y9) (dovecotelaw13_PlaceSplits.l1 (k + 1) y0 y1 y2 y3 y4 y5 y6 y7 y8 y9))
  | 0 => ⟨fun _ _ _ _ _ _ _ r h => by simp [dovecotelaw13_PlaceSplits.l0] at h, fun _ _ _ _ _ _ _ _ _ _ r h => by simp [dovecotelaw13_PlaceSplits.l1] at h⟩
  | k + 1 => by
    obtain ⟨ih0, ih1⟩ := dovecotelaw13_PlaceSplits.mono_l k
    refine ⟨?_, ?_⟩
    · intro y0 y1 y2 y3 y4 y5 y6
      unfold dovecotelaw13_PlaceSplits.l0
      repeat' first
      | (with_reducible exact ih0 _ _ _ _ _ _ _)
      | (with_reducible exact ih1 _ _ _ _ _ _ _ _ _ _)
      | (with_reducible exact dovecoteref13_Split.mono _ _ _)
      | (with_reducible exact place_Parts.mono _ _ _)
      | (with_reducible exact place_Split.mono _ _ _)
      | (with_reducible exact LeO.refl _)
      | (with_reducible exact LeO.none _)
      | (with_reducible refine LeO.ite ?_ ?_)
      | (with_reducible refine LeO.bind ?_ (fun _ => ?_))
      | exact ih0 _ _ _ _ _ _ _
      | exact ih1 _ _ _ _ _ _ _ _ _ _
      | exact dovecoteref13_Split.mono _ _ _
      | exact place_Parts.mono _ _ _
      | exact place_Split.mono _ _ _
      | exact LeO.none _
      | refine LeO.ite ?_ ?_
      | refine LeO.bind ?_ (fun _ => ?_)
    · intro y0 y1 y2 y3 y4 y5 y6 y7 y8 y9
      unfold dovecotelaw13_PlaceSplits.l1
      repeat' first
      | (with_reducible exact ih0 _ _ _ _ _ _ _)
      | (with_reducible exact ih1 _ _ _ _ _ _ _ _ _ _)
      | (with_reducible exact dovecoteref13_Split.mono _ _ _)
      | (with_reducible exact place_Parts.mono _ _ _)
      | (with_reducible exact place_Split.mono _ _ _)
      | (with_reducible exact LeO.refl _)
      | (with_reducible exact LeO.none _)
      | (with_reducible refine LeO.ite ?_ ?_)
      | (with_reducible refine LeO.bind ?_ (fun _ => ?_))
      | exact ih0 _ _ _ _ _ _ _
      | exact ih1 _ _ _ _ _ _ _ _ _ _
      | exact dovecoteref13_Split.mono _ _ _
      | exact place_Parts.mono _ _ _
      | exact place_Split.mono _ _ _
      | exact LeO.none _
      | refine LeO.ite ?_ ?_
      | refine LeO.bind ?_ (fun _ => ?_)
theorem dovecotelaw13_PlaceSplits.mono : ∀ a0 a1 k, LeO (dovecotelaw13_PlaceSplits.f k a0 a1) (dovecotelaw13_PlaceSplits.f (k + 1) a0 a1) := by
  intro a0 a1 k
  obtain ⟨ih0, ih1⟩ := dovecotelaw13_PlaceSplits.mono_l k
  unfold dovecotelaw13_PlaceSplits.f
  repeat' first
      | (with_reducible exact ih0 _ _ _ _ _ _ _)
      | (with_reducible exact ih1 _ _ _ _ _ _ _ _ _ _)
      | (with_reducible exact dovecoteref13_Split.mono _ _ _)
      | (with_reducible exact place_Parts.mono _ _ _)
      | (with_reducible exact place_Split.mono _ _ _)
      | (with_reducible exact LeO.refl _)
      | (with_reducible exact LeO.none _)
      | (with_reducible refine LeO.ite ?_ ?_)
      | (with_reducible refine LeO.bind ?_ (fun _ => ?_))
      | exact ih0 _ _ _ _ _ _ _
      | exact ih1 _ _ _ _ _ _ _ _ _ _
      | exact dovecoteref13_Split.mono _ _ _
      | exact place_Parts.mono _ _ _
      | exact place_Split.mono _ _ _
      | exact LeO.none _
      | refine LeO.ite ?_ ?_
      | refine LeO.bind ?_ (fun _ => ?_)
set_option maxHeartbeats 8000000 in
set_option maxRecDepth 100000 in
theorem dovecotelaw13_PlaceSplits.calls (k : Nat) (A0 : Option Addr) (c0 : Nat) (l0 : List (S44)) (a1 : Int) (r : Bool) (w : World) (hr0 : Kd.C k44 w A0 l0.length l0) (hc0 : l0.length ≤ c0) (h : dovecotelaw13_PlaceSplits.f k l0 a1 = some r) :
    Calls Try.prog 7 #[.slice A0 l0.length c0, .int .i64 a1] w fun e w' => e = .returned (.bool r) ∧ Below w.heap.size w w' := by
  have hu44 := Try.underlying44
  have HR0 := Aside0.mk hr0
  have HC0 := Aside0.mk hc0
  clear hr0 hc0
  have HB := Aside0.mk (Below.refl w.heap.size w)
  have H : ((dovecotelaw13_awake.f).bind fun t127 => (if t127 = true then (if (l0.length : Int) > 1000 then (some true) else ((place_Split.f k l0 a1).bind fun t128 => ((dovecoteref13_Split.f k l0 a1).bind fun t131 => (if (t128.length : Int) = (t131.length : Int) then (dovecotelaw13_PlaceSplits.l0 k l0 a1 t128 t131 0 (t128.length : Int) 0) else (some false))))) else (some false))) = some r := h
  clear h
  replace H := Option.bind_eq_some_iff.mp H
  obtain ⟨t127, A30, H⟩ := H
  replace H : (if t127 = true then (if (l0.length : Int) > 1000 then (some true) else ((place_Split.f k l0 a1).bind fun t128 => ((dovecoteref13_Split.f k l0 a1).bind fun t131 => (if (t128.length : Int) = (t131.length : Int) then (dovecotelaw13_PlaceSplits.l0 k l0 a1 t128 t131 0 (t128.length : Int) 0) else (some false))))) else (some false)) = some r := H
  have A3 := Aside0.mk A30
  clear A30
  by_cases c4 : t127 = true
  · subst c4
    have H1 : (if (l0.length : Int) > 1000 then (some true) else ((place_Split.f k l0 a1).bind fun t128 => ((dovecoteref13_Split.f k l0 a1).bind fun t131 => (if (t128.length : Int) = (t131.length : Int) then (dovecotelaw13_PlaceSplits.l0 k l0 a1 t128 t131 0 (t128.length : Int) 0) else (some false))))) = some r := by rw [if_pos rfl] at H; exact H
    clear H
    have H := H1
    clear H1
    by_cases c5 : (l0.length : Int) > 1000
    · rw [if_pos c5] at H
      have c5b0 : decide (1000 < (l0.length : Int)) = true := decide_eq_true c5
      have c5b1 : decide (1000 < l0.length) = true := decide_eq_true (by omega)
      clear c5
      obtain rfl := Option.some.inj H
      go_enter Try.func7, Try.ntmps7
      go_wp2_with (first | (go_at_call 8; (with_reducible refine (dovecotelaw13_awake.calls  true _ A3.out).mono ?_); rintro e w' ⟨rfl, ⟨nd, rfl⟩⟩; (try first | exact ⟨rfl, _, World.drewN_drewN _ _ _⟩ | exact ⟨rfl, _, Eq.trans (World.drewN_drewN _ _ _) (congrArg (World.drewN _) (Nat.add_assoc _ _ _))⟩)))
      repeat (go_quiet (first | (go_at_call 8; (with_reducible refine (dovecotelaw13_awake.calls  true _ A3.out).mono ?_); rintro e w' ⟨rfl, ⟨nd, rfl⟩⟩; (try first | exact ⟨rfl, _, World.drewN_drewN _ _ _⟩ | exact ⟨rfl, _, Eq.trans (World.drewN_drewN _ _ _) (congrArg (World.drewN _) (Nat.add_assoc _ _ _))⟩))); try go_wp2_with (first | (go_at_call 8; (with_reducible refine (dovecotelaw13_awake.calls  true _ A3.out).mono ?_); rintro e w' ⟨rfl, ⟨nd, rfl⟩⟩; (try first | exact ⟨rfl, _, World.drewN_drewN _ _ _⟩ | exact ⟨rfl, _, Eq.trans (World.drewN_drewN _ _ _) (congrArg (World.drewN _) (Nat.add_assoc _ _ _))⟩))))
      go_ret
      exact ⟨by first | rfl | (simp [errW_none, errW_some] <;> rfl) | (simp [*, errW_none, errW_some] <;> rfl), by repeat (first | (with_reducible first | exact HB.out | apply below_alloc | apply pw_below_drewN | apply below_drew1) | exact HB.out)⟩
    · rw [if_neg c5] at H
      have c5b0 : decide (1000 < (l0.length : Int)) = false := decide_eq_false c5
      have c5b1 : decide (1000 < l0.length) = false := decide_eq_false (by omega)
      clear c5
      replace H := Option.bind_eq_some_iff.mp H
      obtain ⟨t128, A60, H⟩ := H
      replace H : ((dovecoteref13_Split.f k l0 a1).bind fun t131 => (if (t128.length : Int) = (t131.length : Int) then (dovecotelaw13_PlaceSplits.l0 k l0 a1 t128 t131 0 (t128.length : Int) 0) else (some false))) = some r := H
      have A6 := Aside0.mk A60
      clear A60
      replace H := Option.bind_eq_some_iff.mp H
      obtain ⟨t131, A70, H⟩ := H
      replace H : (if (t128.length : Int) = (t131.length : Int) then (dovecotelaw13_PlaceSplits.l0 k l0 a1 t128 t131 0 (t128.length : Int) 0) else (some false)) = some r := H
      have A7 := Aside0.mk A70
      clear A70
      by_cases c8 : (t128.length : Int) = (t131.length : Int)
      · rw [if_pos c8] at H
        have c8b0 : ((t128.length : Int) == (t131.length : Int)) = true := beq_iff_eq.mpr c8
        have c8b1 : ((t128.length : Int) != (t131.length : Int)) = false := bne_eq_false_iff_eq.mpr c8
        have c8b2 : (t128.length == t131.length) = true := by first | simpa using c8 | (simp at c8 ⊢; omega)
        clear c8
        have H' := Aside0.mk H
        clear H
        go_enter Try.func7, Try.ntmps7
        go_wp2_with (first | (go_at_call 8; (with_reducible refine (dovecotelaw13_awake.calls  true _ A3.out).mono ?_); rintro e w' ⟨rfl, ⟨nd, rfl⟩⟩; (try first | exact ⟨rfl, _, World.drewN_drewN _ _ _⟩ | exact ⟨rfl, _, Eq.trans (World.drewN_drewN _ _ _) (congrArg (World.drewN _) (Nat.add_assoc _ _ _))⟩)) | (go_at_call 15; (with_reducible refine (place_Split.calls k _ _ l0 a1 t128 _ ?side1 ?side2 A6.out).mono ?_); (case side1 => repeat (first | exact HR0.out | (with_reducible refine Kd.C_alloc ?_ _) | (with_reducible refine Kd.C_drewN ?_ _) | (with_reducible refine Kd.C_drew ?_))); (case side2 => exact HC0.out); rintro e w9 ⟨v129, rfl, ho0, hb⟩; have n0_ := Aside0.mk (Kd.S_lower ho0 (below_size (by repeat (first | (with_reducible first | exact HB.out | apply below_alloc | apply pw_below_drewN | apply below_drew1) | exact HB.out)))); have n1_ := Aside0.mk (below_step (by repeat (first | (with_reducible first | exact HB.out | apply below_alloc | apply pw_below_drewN | apply below_drew1) | exact HB.out)) hb); clear HB; have HO130 := n0_; have HB := n1_; clear n0_ n1_; (try clear hb); (try clear hb2); (try clear hk); (try clear hi); (try clear ho0)) | (go_at_call 16; (with_reducible refine (dovecoteref13_Split.calls k _ _ l0 a1 t131 _ ?side1 ?side2 A7.out).mono ?_); (case side1 => repeat (first | exact (Kd.C_below HR0.out HB.out) | (with_reducible refine Kd.C_alloc ?_ _) | (with_reducible refine Kd.C_drewN ?_ _) | (with_reducible refine Kd.C_drew ?_))); (case side2 => exact HC0.out); rintro e w10 ⟨v132, rfl, ho0, hb⟩; have n0_ := Aside0.mk (Kd.S_elder' (by (with_reducible repeat (first | apply Kd.S_alloc | apply Kd.S_drewN | apply Kd.S_drew)); exact HO130.out) (Kd.S_base ho0) hb); have n1_ := Aside0.mk (Kd.S_lower (Kd.S_new' ho0 (Kd.S_lt (by (with_reducible repeat (first | apply Kd.S_alloc | apply Kd.S_drewN | apply Kd.S_drew)); exact HO130.out))) (below_size (by repeat (first | (with_reducible first | exact HB.out | apply below_alloc | apply pw_below_drewN | apply below_drew1) | exact HB.out)))); have n2_ := Aside0.mk (below_step (by repeat (first | (with_reducible first | exact HB.out | apply below_alloc | apply pw_below_drewN | apply below_drew1) | exact HB.out)) hb); clear HO130; clear HB; have HO130 := n0_; have HO133 := n1_; have HB := n2_; clear n0_ n1_ n2_; (try clear hb); (try clear hb2); (try clear hk); (try clear hi); (try clear ho0); obtain ⟨Ao11, co11, eo11⟩ := Kd.S_slice HO130.out; subst eo11; obtain ⟨Ao12, co12, eo12⟩ := Kd.S_slice HO133.out; subst eo12))
        repeat (go_quiet (first | (go_at_call 8; (with_reducible refine (dovecotelaw13_awake.calls  true _ A3.out).mono ?_); rintro e w' ⟨rfl, ⟨nd, rfl⟩⟩; (try first | exact ⟨rfl, _, World.drewN_drewN _ _ _⟩ | exact ⟨rfl, _, Eq.trans (World.drewN_drewN _ _ _) (congrArg (World.drewN _) (Nat.add_assoc _ _ _))⟩)) | (go_at_call 15; (with_reducible refine (place_Split.calls k _ _ l0 a1 t128 _ ?side1 ?side2 A6.out).mono ?_); (case side1 => repeat (first | exact HR0.out | (with_reducible refine Kd.C_alloc ?_ _) | (with_reducible refine Kd.C_drewN ?_ _) | (with_reducible refine Kd.C_drew ?_))); (case side2 => exact HC0.out); rintro e w9 ⟨v129, rfl, ho0, hb⟩; have n0_ := Aside0.mk (Kd.S_lower ho0 (below_size (by repeat (first | (with_reducible first | exact HB.out | apply below_alloc | apply pw_below_drewN | apply below_drew1) | exact HB.out)))); have n1_ := Aside0.mk (below_step (by repeat (first | (with_reducible first | exact HB.out | apply below_alloc | apply pw_below_drewN | apply below_drew1) | exact HB.out)) hb); clear HB; have HO130 := n0_; have HB := n1_; clear n0_ n1_; (try clear hb); (try clear hb2); (try clear hk); (try clear hi); (try clear ho0)) | (go_at_call 16; (with_reducible refine (dovecoteref13_Split.calls k _ _ l0 a1 t131 _ ?side1 ?side2 A7.out).mono ?_); (case side1 => repeat (first | exact (Kd.C_below HR0.out HB.out) | (with_reducible refine Kd.C_alloc ?_ _) | (with_reducible refine Kd.C_drewN ?_ _) | (with_reducible refine Kd.C_drew ?_))); (case side2 => exact HC0.out); rintro e w10 ⟨v132, rfl, ho0, hb⟩; have n0_ := Aside0.mk (Kd.S_elder' (by (with_reducible repeat (first | apply Kd.S_alloc | apply Kd.S_drewN | apply Kd.S_drew)); exact HO130.out) (Kd.S_base ho0) hb); have n1_ := Aside0.mk (Kd.S_lower (Kd.S_new' ho0 (Kd.S_lt (by (with_reducible repeat (first | apply Kd.S_alloc | apply Kd.S_drewN | apply Kd.S_drew)); exact HO130.out))) (below_size (by repeat (first | (with_reducible first | exact HB.out | apply below_alloc | apply pw_below_drewN | apply below_drew1) | exact HB.out)))); have n2_ := Aside0.mk (below_step (by repeat (first | (with_reducible first | exact HB.out | apply below_alloc | apply pw_below_drewN | apply below_drew1) | exact HB.out)) hb); clear HO130; clear HB; have HO130 := n0_; have HO133 := n1_; have HB := n2_; clear n0_ n1_ n2_; (try clear hb); (try clear hb2); (try clear hk); (try clear hi); (try clear ho0); obtain ⟨Ao11, co11, eo11⟩ := Kd.S_slice HO130.out; subst eo11; obtain ⟨Ao12, co12, eo12⟩ := Kd.S_slice HO133.out; subst eo12)); try go_wp2_with (first | (go_at_call 8; (with_reducible refine (dovecotelaw13_awake.calls  true _ A3.out).mono ?_); rintro e w' ⟨rfl, ⟨nd, rfl⟩⟩; (try first | exact ⟨rfl, _, World.drewN_drewN _ _ _⟩ | exact ⟨rfl, _, Eq.trans (World.drewN_drewN _ _ _) (congrArg (World.drewN _) (Nat.add_assoc _ _ _))⟩)) | (go_at_call 15; (with_reducible refine (place_Split.calls k _ _ l0 a1 t128 _ ?side1 ?side2 A6.out).mono ?_); (case side1 => repeat (first | exact HR0.out | (with_reducible refine Kd.C_alloc ?_ _) | (with_reducible refine Kd.C_drewN ?_ _) | (with_reducible refine Kd.C_drew ?_))); (case side2 => exact HC0.out); rintro e w9 ⟨v129, rfl, ho0, hb⟩; have n0_ := Aside0.mk (Kd.S_lower ho0 (below_size (by repeat (first | (with_reducible first | exact HB.out | apply below_alloc | apply pw_below_drewN | apply below_drew1) | exact HB.out)))); have n1_ := Aside0.mk (below_step (by repeat (first | (with_reducible first | exact HB.out | apply below_alloc | apply pw_below_drewN | apply below_drew1) | exact HB.out)) hb); clear HB; have HO130 := n0_; have HB := n1_; clear n0_ n1_; (try clear hb); (try clear hb2); (try clear hk); (try clear hi); (try clear ho0)) | (go_at_call 16; (with_reducible refine (dovecoteref13_Split.calls k _ _ l0 a1 t131 _ ?side1 ?side2 A7.out).mono ?_); (case side1 => repeat (first | exact (Kd.C_below HR0.out HB.out) | (with_reducible refine Kd.C_alloc ?_ _) | (with_reducible refine Kd.C_drewN ?_ _) | (with_reducible refine Kd.C_drew ?_))); (case side2 => exact HC0.out); rintro e w10 ⟨v132, rfl, ho0, hb⟩; have n0_ := Aside0.mk (Kd.S_elder' (by (with_reducible repeat (first | apply Kd.S_alloc | apply Kd.S_drewN | apply Kd.S_drew)); exact HO130.out) (Kd.S_base ho0) hb); have n1_ := Aside0.mk (Kd.S_lower (Kd.S_new' ho0 (Kd.S_lt (by (with_reducible repeat (first | apply Kd.S_alloc | apply Kd.S_drewN | apply Kd.S_drew)); exact HO130.out))) (below_size (by repeat (first | (with_reducible first | exact HB.out | apply below_alloc | apply pw_below_drewN | apply below_drew1) | exact HB.out)))); have n2_ := Aside0.mk (below_step (by repeat (first | (with_reducible first | exact HB.out | apply below_alloc | apply pw_below_drewN | apply below_drew1) | exact HB.out)) hb); clear HO130; clear HB; have HO130 := n0_; have HO133 := n1_; have HB := n2_; clear n0_ n1_ n2_; (try clear hb); (try clear hb2); (try clear hk); (try clear hi); (try clear ho0); obtain ⟨Ao11, co11, eo11⟩ := Kd.S_slice HO130.out; subst eo11; obtain ⟨Ao12, co12, eo12⟩ := Kd.S_slice HO133.out; subst eo12)))
        go_loopg [7, 28] k (fun kq v7 v28 w' => ∃ (x7_1 : Int) (x28_1 : Int), v7 = .int .u8 x7_1 ∧ v28 = .int .i64 x28_1 ∧ Aside0 (dovecotelaw13_PlaceSplits.l0 kq l0 a1 t128 t131 x7_1 (t128.length : Int) x28_1 = some r) ∧ Aside0 (kq ≤ k) ∧ Aside0 (Kd.S (Kd.slice 44 k44) 40 w' w.heap.size (fun k_ => some k_ ≠ ((.slice Ao12 t131.length co12) : Value).ownBlock) (.slice Ao11 t128.length co11) t128) ∧ Aside0 (Kd.S (Kd.slice 44 k44) 40 w' w.heap.size (fun k_ => some k_ ≠ ((.slice Ao11 t128.length co11) : Value).ownBlock) (.slice Ao12 t131.length co12) t131) ∧ Aside0 (Below w.heap.size w w'))
        case atStart => exact ⟨(0), (0), (by first | rfl | (simp; done) | (simp [*]; done)), (by first | rfl | (simp; done) | (simp [*]; done)), H', ⟨Nat.le_refl _⟩, ⟨by (with_reducible repeat (first | apply Kd.S_alloc | apply Kd.S_drewN | apply Kd.S_drew)); exact Kd.S_mono HO130.out (fun _ hk => hk.2)⟩, ⟨by (with_reducible repeat (first | apply Kd.S_alloc | apply Kd.S_drewN | apply Kd.S_drew)); exact Kd.S_mono HO133.out (fun _ hk => hk.2)⟩, ⟨by repeat (first | (with_reducible first | exact HB.out | apply below_alloc | apply pw_below_drewN | apply below_drew1) | exact HB.out)⟩⟩
        case round =>
          clear H'
          try clear p2
          try clear c4
          try clear c5
          try clear c5b0
          try clear c5b1
          try clear c7
          try clear c8
          try clear c8b0
          try clear c8b1
          try clear c8b2
          obtain ⟨x7_1, x28_1, rfl, rfl, HA, HK1, HO_5, HO_6, HB⟩ := hrel
          cases gk with
          | zero => exact absurd HA.out (by simp [dovecotelaw13_PlaceSplits.l0])
          | succ k1 =>
            have H := HA.out
            clear HA
            simp only [dovecotelaw13_PlaceSplits.l0] at H
            by_cases c13 : x28_1 < (t128.length : Int)
            · rw [if_pos c13] at H
              have c13b0 : decide (x28_1 < (t128.length : Int)) = true := decide_eq_true c13
              clear c13
              by_cases c14 : 0 ≤ x28_1
              · rw [if_pos c14] at H
                have c14b0 : decide (0 ≤ x28_1) = true := decide_eq_true c14
                clear c14
                by_cases c15 : x28_1 < (t128.length : Int)
                · rw [if_pos c15] at H
                  have c15b0 : decide (x28_1 < (t128.length : Int)) = true := decide_eq_true c15
                  clear c15
                  by_cases c16 : x28_1 < (t131.length : Int)
                  · rw [if_pos c16] at H
                    have c16b0 : decide (x28_1 < (t131.length : Int)) = true := decide_eq_true c16
                    clear c16
                    by_cases c17 : ((rd_L3 t128 x28_1).length : Int) = ((rd_L3 t131 x28_1).length : Int)
                    · rw [if_pos c17] at H
                      have c17b0 : (((rd_L3 t128 x28_1).length : Int) == ((rd_L3 t131 x28_1).length : Int)) = true := beq_iff_eq.mpr c17
                      have c17b1 : (((rd_L3 t128 x28_1).length : Int) != ((rd_L3 t131 x28_1).length : Int)) = false := bne_eq_false_iff_eq.mpr c17
                      have c17b2 : ((rd_L3 t128 x28_1).length == (rd_L3 t131 x28_1).length) = true := by first | simpa using c17 | (simp at c17 ⊢; omega)
                      clear c17
                      have H' := Aside0.mk H
                      clear H
                      have p135 : 0 ≤ (x28_1 : Int) := of_decide_eq_true (by first | (with_reducible assumption) | assumption)
                      have q135 : x28_1 < (t128.length : Int) := of_decide_eq_true (by first | (with_reducible assumption) | assumption)
                      obtain ⟨ad135, A135_0, c135_0, e135, hx135_0, hl135_0, hi135_0⟩ := at_L3 (Kd.S_reads' HO_5.out).2.2 x28_1 p135 q135
                      cases e135
                      obtain ⟨ce135, hce135, hMe135, hcc135⟩ := Kd.S_get HO_5.out [] x28_1 p135 (by first | exact q135 | exact of_decide_eq_true (by first | (with_reducible assumption) | assumption) | (have e_ := (Kd.S_reads' HO_5.out).1; omega))
                      obtain ⟨ve135_0, rfl, ge135_0⟩ := hMe135
                      have hv135_0 := hcc135 0 _ rfl
                      rw [Nat.add_zero, show ((Kd.slice 44 k44)).sz = 1 from rfl, Nat.mul_one] at hv135_0
                      replace hv135_0 := Option.some.inj (hv135_0.symm.trans hx135_0)
                      rw [hv135_0] at ge135_0
                      have HL135_0 := Aside0.mk (show Kd.R k44 44 _ _ _ _ (rd_L3 t128 x28_1) from ge135_0)
                      clear hv135_0 ge135_0
                      clear hcc135 hce135
                      have HR135_0 := Aside0.mk hi135_0
                      have HC135_0 := Aside0.mk hl135_0
                      clear hi135_0 hl135_0
                      replace p135 := eq_true p135
                      replace q135 := eq_true q135
                      have p136 : 0 ≤ (x28_1 : Int) := of_decide_eq_true (by first | (with_reducible assumption) | assumption)
                      have q136 : x28_1 < (t131.length : Int) := of_decide_eq_true (by first | (with_reducible assumption) | assumption)
                      obtain ⟨ad136, A136_0, c136_0, e136, hx136_0, hl136_0, hi136_0⟩ := at_L3 (Kd.S_reads' HO_6.out).2.2 x28_1 p136 q136
                      cases e136
                      obtain ⟨ce136, hce136, hMe136, hcc136⟩ := Kd.S_get HO_6.out [] x28_1 p136 (by first | exact q136 | exact of_decide_eq_true (by first | (with_reducible assumption) | assumption) | (have e_ := (Kd.S_reads' HO_6.out).1; omega))
                      obtain ⟨ve136_0, rfl, ge136_0⟩ := hMe136
                      have hv136_0 := hcc136 0 _ rfl
                      rw [Nat.add_zero, show ((Kd.slice 44 k44)).sz = 1 from rfl, Nat.mul_one] at hv136_0
                      replace hv136_0 := Option.some.inj (hv136_0.symm.trans hx136_0)
                      rw [hv136_0] at ge136_0
                      have HL136_0 := Aside0.mk (show Kd.R k44 44 _ _ _ _ (rd_L3 t131 x28_1) from ge136_0)
                      clear hv136_0 ge136_0
                      clear hcc136 hce136
                      have HR136_0 := Aside0.mk hi136_0
                      have HC136_0 := Aside0.mk hl136_0
                      clear hi136_0 hl136_0
                      replace p136 := eq_true p136
                      replace q136 := eq_true q136
                      have p137 : 0 ≤ (x28_1 : Int) := of_decide_eq_true (by first | (with_reducible assumption) | assumption)
                      have q137 : x28_1 < (t128.length : Int) := of_decide_eq_true (by first | (with_reducible assumption) | assumption)
                      obtain ⟨ad137, A137_0, c137_0, e137, hx137_0, hl137_0, hi137_0⟩ := at_L3 (Kd.S_reads' HO_5.out).2.2 x28_1 p137 q137
                      obtain rfl : ad135 = ad137 := (by injection e137)
                      obtain ⟨ce137, hce137, hMe137, hcc137⟩ := Kd.S_get HO_5.out [] x28_1 p137 (by first | exact q137 | exact of_decide_eq_true (by first | (with_reducible assumption) | assumption) | (have e_ := (Kd.S_reads' HO_5.out).1; omega))
                      obtain ⟨ve137_0, rfl, ge137_0⟩ := hMe137
                      have hv137_0 := hcc137 0 _ rfl
                      rw [Nat.add_zero, show ((Kd.slice 44 k44)).sz = 1 from rfl, Nat.mul_one] at hv137_0
                      replace hv137_0 := Option.some.inj (hv137_0.symm.trans hx137_0)
                      rw [hv137_0] at ge137_0
                      have HL137_0 := Aside0.mk (show Kd.R k44 44 _ _ _ _ (rd_L3 t128 x28_1) from ge137_0)
                      clear hv137_0 ge137_0
                      clear hcc137 hce137
                      have HR137_0 := Aside0.mk hi137_0
                      have HC137_0 := Aside0.mk hl137_0
                      clear hi137_0 hl137_0
                      replace p137 := eq_true p137
                      replace q137 := eq_true q137
                      have ea_ := Option.some.inj (hx135_0.symm.trans hx137_0)
                      injection ea_ with ea_ en_ ec_
                      subst ea_
                      subst ec_
                      clear en_
                      go_wp2
                      repeat (go_quiet (fail); try go_wp2)
                      go_loopg [7, 47] k1 (fun kq v7 v47 w' => ∃ (x7_2 : Int) (x47_2 : Int), v7 = .int .u8 x7_2 ∧ v47 = .int .i64 x47_2 ∧ Aside0 (dovecotelaw13_PlaceSplits.l1 kq l0 a1 t128 t131 x7_2 x28_1 (t128.length : Int) x28_1 ((rd_L3 t128 x28_1).length : Int) x47_2 = some r) ∧ Aside0 (kq ≤ k1) ∧ Aside0 (Kd.S (Kd.slice 44 k44) 40 w' w.heap.size (fun k_ => some k_ ≠ ((.slice (some ad136) t131.length co12) : Value).ownBlock) (.slice (some ad135) t128.length co11) t128) ∧ Aside0 (Kd.S (Kd.slice 44 k44) 40 w' w.heap.size (fun k_ => some k_ ≠ ((.slice (some ad135) t128.length co11) : Value).ownBlock) (.slice (some ad136) t131.length co12) t131) ∧ Aside0 (Kd.C k44 w' A135_0 (rd_L3 t128 x28_1).length (rd_L3 t128 x28_1)) ∧ Aside0 (Kd.C k44 w' A136_0 (rd_L3 t131 x28_1).length (rd_L3 t131 x28_1)) ∧ Aside0 (Kd.C k44 w' A135_0 (rd_L3 t128 x28_1).length (rd_L3 t128 x28_1)) ∧ Aside0 (Below w.heap.size w w'))
                      case atStart => exact ⟨(x7_1), (0), (by first | rfl | (simp; done) | (simp [*]; done)), (by first | rfl | (simp; done) | (simp [*]; done)), H', ⟨Nat.le_refl _⟩, ⟨by (with_reducible repeat (first | apply Kd.S_alloc | apply Kd.S_drewN | apply Kd.S_drew)); exact HO_5.out⟩, ⟨by (with_reducible repeat (first | apply Kd.S_alloc | apply Kd.S_drewN | apply Kd.S_drew)); exact HO_6.out⟩, ⟨by repeat (first | (with_reducible exact HR135_0.out) | (with_reducible refine Kd.C_alloc ?_ _) | (with_reducible refine Kd.C_drewN ?_ _) | (with_reducible refine Kd.C_drew ?_) | exact HR135_0.out)⟩, ⟨by repeat (first | (with_reducible exact HR136_0.out) | (with_reducible refine Kd.C_alloc ?_ _) | (with_reducible refine Kd.C_drewN ?_ _) | (with_reducible refine Kd.C_drew ?_) | exact HR136_0.out)⟩, ⟨by repeat (first | (with_reducible exact HR137_0.out) | (with_reducible refine Kd.C_alloc ?_ _) | (with_reducible refine Kd.C_drewN ?_ _) | (with_reducible refine Kd.C_drew ?_) | exact HR137_0.out)⟩, ⟨by repeat (first | (with_reducible first | exact HB.out | apply below_alloc | apply pw_below_drewN | apply below_drew1) | exact HB.out)⟩⟩
                      case round =>
                        clear H'
                        try clear c1
                        try clear p1
                        try clear q1
                        try clear hx1
                        try clear p2
                        try clear c4
                        try clear c5
                        try clear c5b0
                        try clear c5b1
                        try clear c7
                        try clear c8
                        try clear c8b0
                        try clear c8b1
                        try clear c8b2
                        try clear c13
                        try clear c13b0
                        try clear p13
                        try clear q13
                        try clear hx13
                        try clear c14
                        try clear c14b0
                        try clear c15
                        try clear c15b0
                        try clear c16
                        try clear c16b0
                        try clear c17
                        try clear c17b0
                        try clear c17b1
                        try clear c17b2
                        try clear hx135_0
                        try clear hx136_0
                        try clear hx137_0
                        try clear p135
                        try clear p136
                        try clear p137
                        try clear p2
                        try clear q135
                        try clear q136
                        try clear q137
                        obtain ⟨x7_2, x47_2, rfl, rfl, HA, HK2, HO_5, HO_6, HR135_0, HR136_0, HR137_0, HB⟩ := hrel
                        cases gk with
                        | zero => exact absurd HA.out (by simp [dovecotelaw13_PlaceSplits.l1])
                        | succ k2 =>
                          have H := HA.out
                          clear HA
                          simp only [dovecotelaw13_PlaceSplits.l1] at H
                          by_cases c18 : x47_2 < ((rd_L3 t128 x28_1).length : Int)
                          · rw [if_pos c18] at H
                            have c18b0 : decide (x47_2 < ((rd_L3 t128 x28_1).length : Int)) = true := decide_eq_true c18
                            clear c18
                            by_cases c19 : 0 ≤ x28_1
                            · rw [if_pos c19] at H
                              have c19b0 : decide (0 ≤ x28_1) = true := decide_eq_true c19
                              clear c19
                              by_cases c20 : x28_1 < (t128.length : Int)
                              · rw [if_pos c20] at H
                                have c20b0 : decide (x28_1 < (t128.length : Int)) = true := decide_eq_true c20
                                clear c20
                                by_cases c21 : 0 ≤ x47_2
                                · rw [if_pos c21] at H
                                  have c21b0 : decide (0 ≤ x47_2) = true := decide_eq_true c21
                                  clear c21
                                  by_cases c22 : x47_2 < ((rd_L3 t128 x28_1).length : Int)
                                  · rw [if_pos c22] at H
                                    have c22b0 : decide (x47_2 < ((rd_L3 t128 x28_1).length : Int)) = true := decide_eq_true c22
                                    clear c22
                                    by_cases c23 : x28_1 < (t131.length : Int)
                                    · rw [if_pos c23] at H
                                      have c23b0 : decide (x28_1 < (t131.length : Int)) = true := decide_eq_true c23
                                      clear c23
                                      by_cases c24 : x47_2 < ((rd_L3 t131 x28_1).length : Int)
                                      · rw [if_pos c24] at H
                                        have c24b0 : decide (x47_2 < ((rd_L3 t131 x28_1).length : Int)) = true := decide_eq_true c24
                                        clear c24
                                        by_cases c25 : (!((((rd_T44 (rd_L3 t128 x28_1) x47_2).f0).toList) == (((rd_T44 (rd_L3 t131 x28_1) x47_2).f0).toList)) || (!((((rd_T44 (rd_L3 t128 x28_1) x47_2).f1).toList) == (((rd_T44 (rd_L3 t131 x28_1) x47_2).f1).toList)) || (!(((rd_T44 (rd_L3 t128 x28_1) x47_2).f2) == ((rd_T44 (rd_L3 t131 x28_1) x47_2).f2))))) = true
                                        · rw [if_pos c25] at H
                                          have c25b0 : (!((((rd_T44 (rd_L3 t128 x28_1) x47_2).f0).toList) == (((rd_T44 (rd_L3 t131 x28_1) x47_2).f0).toList)) || (!((((rd_T44 (rd_L3 t128 x28_1) x47_2).f1).toList) == (((rd_T44 (rd_L3 t131 x28_1) x47_2).f1).toList)) || (!(((rd_T44 (rd_L3 t128 x28_1) x47_2).f2) == ((rd_T44 (rd_L3 t131 x28_1) x47_2).f2))))) = true := c25
                                          clear c25
                                          obtain rfl := Option.some.inj H
                                          have p138 : 0 ≤ (x28_1 : Int) := of_decide_eq_true (by first | (with_reducible assumption) | assumption)
                                          have q138 : x28_1 < (t128.length : Int) := of_decide_eq_true (by first | (with_reducible assumption) | assumption)
                                          obtain ⟨ad138, A138_0, c138_0, e138, hx138_0, hl138_0, hi138_0⟩ := at_L3 (Kd.S_reads' HO_5.out).2.2 x28_1 p138 q138
                                          obtain rfl : ad135 = ad138 := (by injection e138)
                                          obtain ⟨ce138, hce138, hMe138, hcc138⟩ := Kd.S_get HO_5.out [] x28_1 p138 (by first | exact q138 | exact of_decide_eq_true (by first | (with_reducible assumption) | assumption) | (have e_ := (Kd.S_reads' HO_5.out).1; omega))
                                          obtain ⟨ve138_0, rfl, ge138_0⟩ := hMe138
                                          have hv138_0 := hcc138 0 _ rfl
                                          rw [Nat.add_zero, show ((Kd.slice 44 k44)).sz = 1 from rfl, Nat.mul_one] at hv138_0
                                          replace hv138_0 := Option.some.inj (hv138_0.symm.trans hx138_0)
                                          rw [hv138_0] at ge138_0
                                          have HL138_0 := Aside0.mk (show Kd.R k44 44 _ _ _ _ (rd_L3 t128 x28_1) from ge138_0)
                                          clear hv138_0 ge138_0
                                          clear hcc138 hce138
                                          have HR138_0 := Aside0.mk hi138_0
                                          have HC138_0 := Aside0.mk hl138_0
                                          clear hi138_0 hl138_0
                                          replace p138 := eq_true p138
                                          replace q138 := eq_true q138
                                          have p139 : 0 ≤ (x47_2 : Int) := of_decide_eq_true (by first | (with_reducible assumption) | assumption)
                                          have q139 : x47_2 < ((rd_L3 t128 x28_1).length : Int) := of_decide_eq_true (by first | (with_reducible assumption) | assumption)
                                          obtain ⟨ad139, e139, hx139_0, hx139_1, hx139_2⟩ := at_T44 (by repeat (first | (with_reducible exact HR138_0.out) | (with_reducible refine Kd.C_alloc ?_ _) | (with_reducible refine Kd.C_drewN ?_ _) | (with_reducible refine Kd.C_drew ?_) | exact HR138_0.out)) x47_2 p139 q139
                                          cases e139
                                          replace p139 := eq_true p139
                                          replace q139 := eq_true q139
                                          have p140 : 0 ≤ (x28_1 : Int) := of_decide_eq_true (by first | (with_reducible assumption) | assumption)
                                          have q140 : x28_1 < (t131.length : Int) := of_decide_eq_true (by first | (with_reducible assumption) | assumption)
                                          obtain ⟨ad140, A140_0, c140_0, e140, hx140_0, hl140_0, hi140_0⟩ := at_L3 (Kd.S_reads' HO_6.out).2.2 x28_1 p140 q140
                                          obtain rfl : ad136 = ad140 := (by injection e140)
                                          obtain ⟨ce140, hce140, hMe140, hcc140⟩ := Kd.S_get HO_6.out [] x28_1 p140 (by first | exact q140 | exact of_decide_eq_true (by first | (with_reducible assumption) | assumption) | (have e_ := (Kd.S_reads' HO_6.out).1; omega))
                                          obtain ⟨ve140_0, rfl, ge140_0⟩ := hMe140
                                          have hv140_0 := hcc140 0 _ rfl
                                          rw [Nat.add_zero, show ((Kd.slice 44 k44)).sz = 1 from rfl, Nat.mul_one] at hv140_0
                                          replace hv140_0 := Option.some.inj (hv140_0.symm.trans hx140_0)
                                          rw [hv140_0] at ge140_0
                                          have HL140_0 := Aside0.mk (show Kd.R k44 44 _ _ _ _ (rd_L3 t131 x28_1) from ge140_0)
                                          clear hv140_0 ge140_0
                                          clear hcc140 hce140
                                          have HR140_0 := Aside0.mk hi140_0
                                          have HC140_0 := Aside0.mk hl140_0
                                          clear hi140_0 hl140_0
                                          replace p140 := eq_true p140
                                          replace q140 := eq_true q140
                                          have p141 : 0 ≤ (x47_2 : Int) := of_decide_eq_true (by first | (with_reducible assumption) | assumption)
                                          have q141 : x47_2 < ((rd_L3 t131 x28_1).length : Int) := of_decide_eq_true (by first | (with_reducible assumption) | assumption)
                                          obtain ⟨ad141, e141, hx141_0, hx141_1, hx141_2⟩ := at_T44 (by repeat (first | (with_reducible exact HR140_0.out) | (with_reducible refine Kd.C_alloc ?_ _) | (with_reducible refine Kd.C_drewN ?_ _) | (with_reducible refine Kd.C_drew ?_) | exact HR140_0.out)) x47_2 p141 q141
                                          cases e141
                                          replace p141 := eq_true p141
                                          replace q141 := eq_true q141
                                          go_wp2
                                          repeat (go_quiet (fail); try go_wp2)
                                          go_ret
                                          exact ⟨by first | rfl | (simp [errW_none, errW_some] <;> rfl) | (simp [*, errW_none, errW_some] <;> rfl), by repeat (first | (with_reducible first | exact HB.out | apply below_alloc | apply pw_below_drewN | apply below_drew1) | exact HB.out)⟩
                                        · rw [if_neg c25] at H
                                          have c25b0 : (!((((rd_T44 (rd_L3 t128 x28_1) x47_2).f0).toList) == (((rd_T44 (rd_L3 t131 x28_1) x47_2).f0).toList)) || (!((((rd_T44 (rd_L3 t128 x28_1) x47_2).f1).toList) == (((rd_T44 (rd_L3 t131 x28_1) x47_2).f1).toList)) || (!(((rd_T44 (rd_L3 t128 x28_1) x47_2).f2) == ((rd_T44 (rd_L3 t131 x28_1) x47_2).f2))))) = false := by simpa using c25
                                          clear c25
                                          have c26b0 := eq_true (of_decide_eq_true (by first | (with_reducible assumption) | assumption) : 0 ≤ x28_1)
                                          obtain ⟨ji27, hji27⟩ : ∃ j_ : Int, (shl .u8 1 x28_1) = j_ := ⟨_, rfl⟩
                                          replace H : (dovecotelaw13_PlaceSplits.l1 k2 l0 a1 t128 t131 (Go.bits .or .u8 x7_2 (ji27)) x28_1 (t128.length : Int) x28_1 ((rd_L3 t128 x28_1).length : Int) (wrap64 (x47_2 + 1))) = some r := by first | (rw [hji27] at H; exact H) | (simp only [hji27] at H ⊢; exact H)
                                          have hji27_ : (IntKind.u8.wrap (1 * 2 ^ min x28_1.toNat 8)) = ji27 := hji27
                                          have hji27z : x28_1 ≤ 8 → (IntKind.u8.wrap (1 * 2 ^ x28_1.toNat)) = ji27 := shl_small hji27
                                          have hji27u : (IntKind.u8.wrap (2 ^ min x28_1.toNat 8)) = ji27 := by have h_ := hji27_; rw [Int.one_mul] at h_; exact h_
                                          have hji27v : x28_1 ≤ 8 → (IntKind.u8.wrap (2 ^ x28_1.toNat)) = ji27 := fun hle_ => by have h_ := hji27z hle_; rw [Int.one_mul] at h_; exact h_
                                          have H' := Aside0.mk H
                                          clear H
                                          have p138 : 0 ≤ (x28_1 : Int) := of_decide_eq_true (by first | (with_reducible assumption) | assumption)
                                          have q138 : x28_1 < (t128.length : Int) := of_decide_eq_true (by first | (with_reducible assumption) | assumption)
                                          obtain ⟨ad138, A138_0, c138_0, e138, hx138_0, hl138_0, hi138_0⟩ := at_L3 (Kd.S_reads' HO_5.out).2.2 x28_1 p138 q138
                                          obtain rfl : ad135 = ad138 := (by injection e138)
                                          obtain ⟨ce138, hce138, hMe138, hcc138⟩ := Kd.S_get HO_5.out [] x28_1 p138 (by first | exact q138 | exact of_decide_eq_true (by first | (with_reducible assumption) | assumption) | (have e_ := (Kd.S_reads' HO_5.out).1; omega))
                                          obtain ⟨ve138_0, rfl, ge138_0⟩ := hMe138
                                          have hv138_0 := hcc138 0 _ rfl
                                          rw [Nat.add_zero, show ((Kd.slice 44 k44)).sz = 1 from rfl, Nat.mul_one] at hv138_0
                                          replace hv138_0 := Option.some.inj (hv138_0.symm.trans hx138_0)
                                          rw [hv138_0] at ge138_0
                                          have HL138_0 := Aside0.mk (show Kd.R k44 44 _ _ _ _ (rd_L3 t128 x28_1) from ge138_0)
                                          clear hv138_0 ge138_0
                                          clear hcc138 hce138
                                          have HR138_0 := Aside0.mk hi138_0
                                          have HC138_0 := Aside0.mk hl138_0
                                          clear hi138_0 hl138_0
                                          replace p138 := eq_true p138
                                          replace q138 := eq_true q138
                                          have p139 : 0 ≤ (x47_2 : Int) := of_decide_eq_true (by first | (with_reducible assumption) | assumption)
                                          have q139 : x47_2 < ((rd_L3 t128 x28_1).length : Int) := of_decide_eq_true (by first | (with_reducible assumption) | assumption)
                                          obtain ⟨ad139, e139, hx139_0, hx139_1, hx139_2⟩ := at_T44 (by repeat (first | (with_reducible exact HR138_0.out) | (with_reducible refine Kd.C_alloc ?_ _) | (with_reducible refine Kd.C_drewN ?_ _) | (with_reducible refine Kd.C_drew ?_) | exact HR138_0.out)) x47_2 p139 q139
                                          cases e139
                                          replace p139 := eq_true p139
                                          replace q139 := eq_true q139
                                          have p140 : 0 ≤ (x28_1 : Int) := of_decide_eq_true (by first | (with_reducible assumption) | assumption)
                                          have q140 : x28_1 < (t131.length : Int) := of_decide_eq_true (by first | (with_reducible assumption) | assumption)
                                          obtain ⟨ad140, A140_0, c140_0, e140, hx140_0, hl140_0, hi140_0⟩ := at_L3 (Kd.S_reads' HO_6.out).2.2 x28_1 p140 q140
                                          obtain rfl : ad136 = ad140 := (by injection e140)
                                          obtain ⟨ce140, hce140, hMe140, hcc140⟩ := Kd.S_get HO_6.out [] x28_1 p140 (by first | exact q140 | exact of_decide_eq_true (by first | (with_reducible assumption) | assumption) | (have e_ := (Kd.S_reads' HO_6.out).1; omega))
                                          obtain ⟨ve140_0, rfl, ge140_0⟩ := hMe140
                                          have hv140_0 := hcc140 0 _ rfl
                                          rw [Nat.add_zero, show ((Kd.slice 44 k44)).sz = 1 from rfl, Nat.mul_one] at hv140_0
                                          replace hv140_0 := Option.some.inj (hv140_0.symm.trans hx140_0)
                                          rw [hv140_0] at ge140_0
                                          have HL140_0 := Aside0.mk (show Kd.R k44 44 _ _ _ _ (rd_L3 t131 x28_1) from ge140_0)
                                          clear hv140_0 ge140_0
                                          clear hcc140 hce140
                                          have HR140_0 := Aside0.mk hi140_0
                                          have HC140_0 := Aside0.mk hl140_0
                                          clear hi140_0 hl140_0
                                          replace p140 := eq_true p140
                                          replace q140 := eq_true q140
                                          have p141 : 0 ≤ (x47_2 : Int) := of_decide_eq_true (by first | (with_reducible assumption) | assumption)
                                          have q141 : x47_2 < ((rd_L3 t131 x28_1).length : Int) := of_decide_eq_true (by first | (with_reducible assumption) | assumption)
                                          obtain ⟨ad141, e141, hx141_0, hx141_1, hx141_2⟩ := at_T44 (by repeat (first | (with_reducible exact HR140_0.out) | (with_reducible refine Kd.C_alloc ?_ _) | (with_reducible refine Kd.C_drewN ?_ _) | (with_reducible refine Kd.C_drew ?_) | exact HR140_0.out)) x47_2 p141 q141
                                          cases e141
                                          replace p141 := eq_true p141
                                          replace q141 := eq_true q141
                                          go_wp2
                                          repeat (go_quiet (fail); try go_wp2)
                                          go_roundg k2
                                          case measure => have := HK1.out; have := HK2.out; omega
                                          case rel => exact ⟨(Go.bits .or .u8 x7_2 (ji27)), (wrap64 (x47_2 + 1)), (by first | rfl | (simp; done) | (simp only [← hji27] <;> (first | rfl | simp)) | (simp [*]; done)), (by first | rfl | (simp; done) | (simp [*]; done)), H', ⟨by have := HK1.out; have := HK2.out; omega⟩, ⟨by (with_reducible repeat (first | apply Kd.S_alloc | apply Kd.S_drewN | apply Kd.S_drew)); exact HO_5.out⟩, ⟨by (with_reducible repeat (first | apply Kd.S_alloc | apply Kd.S_drewN | apply Kd.S_drew)); exact HO_6.out⟩, ⟨by repeat (first | (with_reducible exact HR135_0.out) | (with_reducible refine Kd.C_alloc ?_ _) | (with_reducible refine Kd.C_drewN ?_ _) | (with_reducible refine Kd.C_drew ?_) | exact HR135_0.out)⟩, ⟨by repeat (first | (with_reducible exact HR136_0.out) | (with_reducible refine Kd.C_alloc ?_ _) | (with_reducible refine Kd.C_drewN ?_ _) | (with_reducible refine Kd.C_drew ?_) | exact HR136_0.out)⟩, ⟨by repeat (first | (with_reducible exact HR137_0.out) | (with_reducible refine Kd.C_alloc ?_ _) | (with_reducible refine Kd.C_drewN ?_ _) | (with_reducible refine Kd.C_drew ?_) | exact HR137_0.out)⟩, ⟨by repeat (first | (with_reducible first | exact HB.out | apply below_alloc | apply pw_below_drewN | apply below_drew1) | exact HB.out)⟩⟩
                                      · rw [if_neg c24] at H
                                        exact absurd H (by simp)
                                    · rw [if_neg c23] at H
                                      exact absurd H (by simp)
                                  · rw [if_neg c22] at H
                                    exact absurd H (by simp)
                                · rw [if_neg c21] at H
                                  exact absurd H (by simp)
                              · rw [if_neg c20] at H
                                exact absurd H (by simp)
                            · rw [if_neg c19] at H
                              exact absurd H (by simp)
                          · rw [if_neg c18] at H
                            have c18b0 : decide (x47_2 < ((rd_L3 t128 x28_1).length : Int)) = false := decide_eq_false c18
                            clear c18
                            have H' := Aside0.mk H
                            clear H
                            go_wp2
                            repeat (go_quiet (fail); try go_wp2)
                            go_roundg k2
                            case measure => have := HK1.out; have := HK2.out; omega
                            case rel => exact ⟨(x7_2), (wrap64 (x28_1 + 1)), (by first | rfl | (simp; done) | (simp [*]; done)), (by first | rfl | (simp; done) | (simp [*]; done)), H', ⟨by have := HK1.out; have := HK2.out; omega⟩, ⟨by (with_reducible repeat (first | apply Kd.S_alloc | apply Kd.S_drewN | apply Kd.S_drew)); exact HO_5.out⟩, ⟨by (with_reducible repeat (first | apply Kd.S_alloc | apply Kd.S_drewN | apply Kd.S_drew)); exact HO_6.out⟩, ⟨by repeat (first | (with_reducible first | exact HB.out | apply below_alloc | apply pw_below_drewN | apply below_drew1) | exact HB.out)⟩⟩
                    · rw [if_neg c17] at H
                      have c17b0 : (((rd_L3 t128 x28_1).length : Int) == ((rd_L3 t131 x28_1).length : Int)) = false := beq_eq_false_iff_ne.mpr c17
                      have c17b1 : (((rd_L3 t128 x28_1).length : Int) != ((rd_L3 t131 x28_1).length : Int)) = true := bne_iff_ne.mpr c17
                      have c17b2 : ((rd_L3 t128 x28_1).length == (rd_L3 t131 x28_1).length) = false := by first | simpa using c17 | (simp at c17 ⊢; omega)
                      obtain rfl := Option.some.inj H
                      have p135 : 0 ≤ (x28_1 : Int) := of_decide_eq_true (by first | (with_reducible assumption) | assumption)
                      have q135 : x28_1 < (t128.length : Int) := of_decide_eq_true (by first | (with_reducible assumption) | assumption)
                      obtain ⟨ad135, A135_0, c135_0, e135, hx135_0, hl135_0, hi135_0⟩ := at_L3 (Kd.S_reads' HO_5.out).2.2 x28_1 p135 q135
                      cases e135
                      obtain ⟨ce135, hce135, hMe135, hcc135⟩ := Kd.S_get HO_5.out [] x28_1 p135 (by first | exact q135 | exact of_decide_eq_true (by first | (with_reducible assumption) | assumption) | (have e_ := (Kd.S_reads' HO_5.out).1; omega))
                      obtain ⟨ve135_0, rfl, ge135_0⟩ := hMe135
                      have hv135_0 := hcc135 0 _ rfl
                      rw [Nat.add_zero, show ((Kd.slice 44 k44)).sz = 1 from rfl, Nat.mul_one] at hv135_0
                      replace hv135_0 := Option.some.inj (hv135_0.symm.trans hx135_0)
                      rw [hv135_0] at ge135_0
                      have HL135_0 := Aside0.mk (show Kd.R k44 44 _ _ _ _ (rd_L3 t128 x28_1) from ge135_0)
                      clear hv135_0 ge135_0
                      clear hcc135 hce135
                      have HR135_0 := Aside0.mk hi135_0
                      have HC135_0 := Aside0.mk hl135_0
                      clear hi135_0 hl135_0
                      replace p135 := eq_true p135
                      replace q135 := eq_true q135
                      have p136 : 0 ≤ (x28_1 : Int) := of_decide_eq_true (by first | (with_reducible assumption) | assumption)
                      have q136 : x28_1 < (t131.length : Int) := of_decide_eq_true (by first | (with_reducible assumption) | assumption)
                      obtain ⟨ad136, A136_0, c136_0, e136, hx136_0, hl136_0, hi136_0⟩ := at_L3 (Kd.S_reads' HO_6.out).2.2 x28_1 p136 q136
                      cases e136
                      obtain ⟨ce136, hce136, hMe136, hcc136⟩ := Kd.S_get HO_6.out [] x28_1 p136 (by first | exact q136 | exact of_decide_eq_true (by first | (with_reducible assumption) | assumption) | (have e_ := (Kd.S_reads' HO_6.out).1; omega))
                      obtain ⟨ve136_0, rfl, ge136_0⟩ := hMe136
                      have hv136_0 := hcc136 0 _ rfl
                      rw [Nat.add_zero, show ((Kd.slice 44 k44)).sz = 1 from rfl, Nat.mul_one] at hv136_0
                      replace hv136_0 := Option.some.inj (hv136_0.symm.trans hx136_0)
                      rw [hv136_0] at ge136_0
                      have HL136_0 := Aside0.mk (show Kd.R k44 44 _ _ _ _ (rd_L3 t131 x28_1) from ge136_0)
                      clear hv136_0 ge136_0
                      clear hcc136 hce136
                      have HR136_0 := Aside0.mk hi136_0
                      have HC136_0 := Aside0.mk hl136_0
                      clear hi136_0 hl136_0
                      replace p136 := eq_true p136
                      replace q136 := eq_true q136
                      go_wp2
                      repeat (go_quiet (fail); try go_wp2)
                      go_ret
                      exact ⟨by first | rfl | (simp [errW_none, errW_some] <;> rfl) | (simp [*, errW_none, errW_some] <;> rfl), by repeat (first | (with_reducible first | exact HB.out | apply below_alloc | apply pw_below_drewN | apply below_drew1) | exact HB.out)⟩
                  · rw [if_neg c16] at H
                    exact absurd H (by simp)
                · rw [if_neg c15] at H
                  exact absurd H (by simp)
              · rw [if_neg c14] at H
                exact absurd H (by simp)
            · rw [if_neg c13] at H
              have c13b0 : decide (x28_1 < (t128.length : Int)) = false := decide_eq_false c13
              clear c13
              replace H := Option.bind_eq_some_iff.mp H
              obtain ⟨t134, A280, H⟩ := H
              replace H : (some (t134 == x7_1)) = some r := H
              have A28 := Aside0.mk A280
              clear A280
              obtain rfl := Option.some.inj H
              go_wp2_with (first | (go_at_call 17; (with_reducible refine (place_Parts.calls k1 _ _ l0 a1 t134 _ ?side1 ?side2 A28.out).mono ?_); (case side1 => repeat (first | exact (Kd.C_below HR0.out HB.out) | (with_reducible refine Kd.C_alloc ?_ _) | (with_reducible refine Kd.C_drewN ?_ _) | (with_reducible refine Kd.C_drew ?_))); (case side2 => exact HC0.out); rintro e w29 ⟨rfl, hb⟩; have n0_ := Aside0.mk (Kd.S_below (by (with_reducible repeat (first | apply Kd.S_alloc | apply Kd.S_drewN | apply Kd.S_drew)); exact HO_5.out) hb); have n1_ := Aside0.mk (Kd.S_below (by (with_reducible repeat (first | apply Kd.S_alloc | apply Kd.S_drewN | apply Kd.S_drew)); exact HO_6.out) hb); have n2_ := Aside0.mk (below_step (by repeat (first | (with_reducible first | exact HB.out | apply below_alloc | apply pw_below_drewN | apply below_drew1) | exact HB.out)) hb); clear HO_5; clear HO_6; clear HB; have HO_5 := n0_; have HO_6 := n1_; have HB := n2_; clear n0_ n1_ n2_; (try clear hb); (try clear hb2); (try clear hk); (try clear hi)))
              repeat (go_quiet (first | (go_at_call 17; (with_reducible refine (place_Parts.calls k1 _ _ l0 a1 t134 _ ?side1 ?side2 A28.out).mono ?_); (case side1 => repeat (first | exact (Kd.C_below HR0.out HB.out) | (with_reducible refine Kd.C_alloc ?_ _) | (with_reducible refine Kd.C_drewN ?_ _) | (with_reducible refine Kd.C_drew ?_))); (case side2 => exact HC0.out); rintro e w29 ⟨rfl, hb⟩; have n0_ := Aside0.mk (Kd.S_below (by (with_reducible repeat (first | apply Kd.S_alloc | apply Kd.S_drewN | apply Kd.S_drew)); exact HO_5.out) hb); have n1_ := Aside0.mk (Kd.S_below (by (with_reducible repeat (first | apply Kd.S_alloc | apply Kd.S_drewN | apply Kd.S_drew)); exact HO_6.out) hb); have n2_ := Aside0.mk (below_step (by repeat (first | (with_reducible first | exact HB.out | apply below_alloc | apply pw_below_drewN | apply below_drew1) | exact HB.out)) hb); clear HO_5; clear HO_6; clear HB; have HO_5 := n0_; have HO_6 := n1_; have HB := n2_; clear n0_ n1_ n2_; (try clear hb); (try clear hb2); (try clear hk); (try clear hi))); try go_wp2_with (first | (go_at_call 17; (with_reducible refine (place_Parts.calls k1 _ _ l0 a1 t134 _ ?side1 ?side2 A28.out).mono ?_); (case side1 => repeat (first | exact (Kd.C_below HR0.out HB.out) | (with_reducible refine Kd.C_alloc ?_ _) | (with_reducible refine Kd.C_drewN ?_ _) | (with_reducible refine Kd.C_drew ?_))); (case side2 => exact HC0.out); rintro e w29 ⟨rfl, hb⟩; have n0_ := Aside0.mk (Kd.S_below (by (with_reducible repeat (first | apply Kd.S_alloc | apply Kd.S_drewN | apply Kd.S_drew)); exact HO_5.out) hb); have n1_ := Aside0.mk (Kd.S_below (by (with_reducible repeat (first | apply Kd.S_alloc | apply Kd.S_drewN | apply Kd.S_drew)); exact HO_6.out) hb); have n2_ := Aside0.mk (below_step (by repeat (first | (with_reducible first | exact HB.out | apply below_alloc | apply pw_below_drewN | apply below_drew1) | exact HB.out)) hb); clear HO_5; clear HO_6; clear HB; have HO_5 := n0_; have HO_6 := n1_; have HB := n2_; clear n0_ n1_ n2_; (try clear hb); (try clear hb2); (try clear hk); (try clear hi))))
              go_ret
              exact ⟨by first | rfl | (simp [errW_none, errW_some] <;> rfl) | (simp [*, errW_none, errW_some] <;> rfl), by repeat (first | (with_reducible first | exact HB.out | apply below_alloc | apply pw_below_drewN | apply below_drew1) | exact HB.out)⟩
      · rw [if_neg c8] at H
        have c8b0 : ((t128.length : Int) == (t131.length : Int)) = false := beq_eq_false_iff_ne.mpr c8
        have c8b1 : ((t128.length : Int) != (t131.length : Int)) = true := bne_iff_ne.mpr c8
        have c8b2 : (t128.length == t131.length) = false := by first | simpa using c8 | (simp at c8 ⊢; omega)
        obtain rfl := Option.some.inj H
        go_enter Try.func7, Try.ntmps7
        go_wp2_with (first | (go_at_call 8; (with_reducible refine (dovecotelaw13_awake.calls  true _ A3.out).mono ?_); rintro e w' ⟨rfl, ⟨nd, rfl⟩⟩; (try first | exact ⟨rfl, _, World.drewN_drewN _ _ _⟩ | exact ⟨rfl, _, Eq.trans (World.drewN_drewN _ _ _) (congrArg (World.drewN _) (Nat.add_assoc _ _ _))⟩)) | (go_at_call 15; (with_reducible refine (place_Split.calls k _ _ l0 a1 t128 _ ?side1 ?side2 A6.out).mono ?_); (case side1 => repeat (first | exact HR0.out | (with_reducible refine Kd.C_alloc ?_ _) | (with_reducible refine Kd.C_drewN ?_ _) | (with_reducible refine Kd.C_drew ?_))); (case side2 => exact HC0.out); rintro e w30 ⟨v129, rfl, ho0, hb⟩; have n0_ := Aside0.mk (Kd.S_lower ho0 (below_size (by repeat (first | (with_reducible first | exact HB.out | apply below_alloc | apply pw_below_drewN | apply below_drew1) | exact HB.out)))); have n1_ := Aside0.mk (below_step (by repeat (first | (with_reducible first | exact HB.out | apply below_alloc | apply pw_below_drewN | apply below_drew1) | exact HB.out)) hb); clear HB; have HO130 := n0_; have HB := n1_; clear n0_ n1_; (try clear hb); (try clear hb2); (try clear hk); (try clear hi); (try clear ho0)) | (go_at_call 16; (with_reducible refine (dovecoteref13_Split.calls k _ _ l0 a1 t131 _ ?side1 ?side2 A7.out).mono ?_); (case side1 => repeat (first | exact (Kd.C_below HR0.out HB.out) | (with_reducible refine Kd.C_alloc ?_ _) | (with_reducible refine Kd.C_drewN ?_ _) | (with_reducible refine Kd.C_drew ?_))); (case side2 => exact HC0.out); rintro e w31 ⟨v132, rfl, ho0, hb⟩; have n0_ := Aside0.mk (Kd.S_elder' (by (with_reducible repeat (first | apply Kd.S_alloc | apply Kd.S_drewN | apply Kd.S_drew)); exact HO130.out) (Kd.S_base ho0) hb); have n1_ := Aside0.mk (Kd.S_lower (Kd.S_new' ho0 (Kd.S_lt (by (with_reducible repeat (first | apply Kd.S_alloc | apply Kd.S_drewN | apply Kd.S_drew)); exact HO130.out))) (below_size (by repeat (first | (with_reducible first | exact HB.out | apply below_alloc | apply pw_below_drewN | apply below_drew1) | exact HB.out)))); have n2_ := Aside0.mk (below_step (by repeat (first | (with_reducible first | exact HB.out | apply below_alloc | apply pw_below_drewN | apply below_drew1) | exact HB.out)) hb); clear HO130; clear HB; have HO130 := n0_; have HO133 := n1_; have HB := n2_; clear n0_ n1_ n2_; (try clear hb); (try clear hb2); (try clear hk); (try clear hi); (try clear ho0); obtain ⟨Ao32, co32, eo32⟩ := Kd.S_slice HO130.out; subst eo32; obtain ⟨Ao33, co33, eo33⟩ := Kd.S_slice HO133.out; subst eo33))
        repeat (go_quiet (first | (go_at_call 8; (with_reducible refine (dovecotelaw13_awake.calls  true _ A3.out).mono ?_); rintro e w' ⟨rfl, ⟨nd, rfl⟩⟩; (try first | exact ⟨rfl, _, World.drewN_drewN _ _ _⟩ | exact ⟨rfl, _, Eq.trans (World.drewN_drewN _ _ _) (congrArg (World.drewN _) (Nat.add_assoc _ _ _))⟩)) | (go_at_call 15; (with_reducible refine (place_Split.calls k _ _ l0 a1 t128 _ ?side1 ?side2 A6.out).mono ?_); (case side1 => repeat (first | exact HR0.out | (with_reducible refine Kd.C_alloc ?_ _) | (with_reducible refine Kd.C_drewN ?_ _) | (with_reducible refine Kd.C_drew ?_))); (case side2 => exact HC0.out); rintro e w30 ⟨v129, rfl, ho0, hb⟩; have n0_ := Aside0.mk (Kd.S_lower ho0 (below_size (by repeat (first | (with_reducible first | exact HB.out | apply below_alloc | apply pw_below_drewN | apply below_drew1) | exact HB.out)))); have n1_ := Aside0.mk (below_step (by repeat (first | (with_reducible first | exact HB.out | apply below_alloc | apply pw_below_drewN | apply below_drew1) | exact HB.out)) hb); clear HB; have HO130 := n0_; have HB := n1_; clear n0_ n1_; (try clear hb); (try clear hb2); (try clear hk); (try clear hi); (try clear ho0)) | (go_at_call 16; (with_reducible refine (dovecoteref13_Split.calls k _ _ l0 a1 t131 _ ?side1 ?side2 A7.out).mono ?_); (case side1 => repeat (first | exact (Kd.C_below HR0.out HB.out) | (with_reducible refine Kd.C_alloc ?_ _) | (with_reducible refine Kd.C_drewN ?_ _) | (with_reducible refine Kd.C_drew ?_))); (case side2 => exact HC0.out); rintro e w31 ⟨v132, rfl, ho0, hb⟩; have n0_ := Aside0.mk (Kd.S_elder' (by (with_reducible repeat (first | apply Kd.S_alloc | apply Kd.S_drewN | apply Kd.S_drew)); exact HO130.out) (Kd.S_base ho0) hb); have n1_ := Aside0.mk (Kd.S_lower (Kd.S_new' ho0 (Kd.S_lt (by (with_reducible repeat (first | apply Kd.S_alloc | apply Kd.S_drewN | apply Kd.S_drew)); exact HO130.out))) (below_size (by repeat (first | (with_reducible first | exact HB.out | apply below_alloc | apply pw_below_drewN | apply below_drew1) | exact HB.out)))); have n2_ := Aside0.mk (below_step (by repeat (first | (with_reducible first | exact HB.out | apply below_alloc | apply pw_below_drewN | apply below_drew1) | exact HB.out)) hb); clear HO130; clear HB; have HO130 := n0_; have HO133 := n1_; have HB := n2_; clear n0_ n1_ n2_; (try clear hb); (try clear hb2); (try clear hk); (try clear hi); (try clear ho0); obtain ⟨Ao32, co32, eo32⟩ := Kd.S_slice HO130.out; subst eo32; obtain ⟨Ao33, co33, eo33⟩ := Kd.S_slice HO133.out; subst eo33)); try go_wp2_with (first | (go_at_call 8; (with_reducible refine (dovecotelaw13_awake.calls  true _ A3.out).mono ?_); rintro e w' ⟨rfl, ⟨nd, rfl⟩⟩; (try first | exact ⟨rfl, _, World.drewN_drewN _ _ _⟩ | exact ⟨rfl, _, Eq.trans (World.drewN_drewN _ _ _) (congrArg (World.drewN _) (Nat.add_assoc _ _ _))⟩)) | (go_at_call 15; (with_reducible refine (place_Split.calls k _ _ l0 a1 t128 _ ?side1 ?side2 A6.out).mono ?_); (case side1 => repeat (first | exact HR0.out | (with_reducible refine Kd.C_alloc ?_ _) | (with_reducible refine Kd.C_drewN ?_ _) | (with_reducible refine Kd.C_drew ?_))); (case side2 => exact HC0.out); rintro e w30 ⟨v129, rfl, ho0, hb⟩; have n0_ := Aside0.mk (Kd.S_lower ho0 (below_size (by repeat (first | (with_reducible first | exact HB.out | apply below_alloc | apply pw_below_drewN | apply below_drew1) | exact HB.out)))); have n1_ := Aside0.mk (below_step (by repeat (first | (with_reducible first | exact HB.out | apply below_alloc | apply pw_below_drewN | apply below_drew1) | exact HB.out)) hb); clear HB; have HO130 := n0_; have HB := n1_; clear n0_ n1_; (try clear hb); (try clear hb2); (try clear hk); (try clear hi); (try clear ho0)) | (go_at_call 16; (with_reducible refine (dovecoteref13_Split.calls k _ _ l0 a1 t131 _ ?side1 ?side2 A7.out).mono ?_); (case side1 => repeat (first | exact (Kd.C_below HR0.out HB.out) | (with_reducible refine Kd.C_alloc ?_ _) | (with_reducible refine Kd.C_drewN ?_ _) | (with_reducible refine Kd.C_drew ?_))); (case side2 => exact HC0.out); rintro e w31 ⟨v132, rfl, ho0, hb⟩; have n0_ := Aside0.mk (Kd.S_elder' (by (with_reducible repeat (first | apply Kd.S_alloc | apply Kd.S_drewN | apply Kd.S_drew)); exact HO130.out) (Kd.S_base ho0) hb); have n1_ := Aside0.mk (Kd.S_lower (Kd.S_new' ho0 (Kd.S_lt (by (with_reducible repeat (first | apply Kd.S_alloc | apply Kd.S_drewN | apply Kd.S_drew)); exact HO130.out))) (below_size (by repeat (first | (with_reducible first | exact HB.out | apply below_alloc | apply pw_below_drewN | apply below_drew1) | exact HB.out)))); have n2_ := Aside0.mk (below_step (by repeat (first | (with_reducible first | exact HB.out | apply below_alloc | apply pw_below_drewN | apply below_drew1) | exact HB.out)) hb); clear HO130; clear HB; have HO130 := n0_; have HO133 := n1_; have HB := n2_; clear n0_ n1_ n2_; (try clear hb); (try clear hb2); (try clear hk); (try clear hi); (try clear ho0); obtain ⟨Ao32, co32, eo32⟩ := Kd.S_slice HO130.out; subst eo32; obtain ⟨Ao33, co33, eo33⟩ := Kd.S_slice HO133.out; subst eo33)))
        go_ret
        exact ⟨by first | rfl | (simp [errW_none, errW_some] <;> rfl) | (simp [*, errW_none, errW_some] <;> rfl), by repeat (first | (with_reducible first | exact HB.out | apply below_alloc | apply pw_below_drewN | apply below_drew1) | exact HB.out)⟩
  · replace c4 := Bool.eq_false_iff.mpr c4
    subst c4
    have H1 : (some false) = some r := by rw [if_neg (show ¬ (false = true) by decide)] at H; exact H
    clear H
    have H := H1
    clear H1
    obtain rfl := Option.some.inj H
    go_enter Try.func7, Try.ntmps7
    go_wp2_with (first | (go_at_call 8; (with_reducible refine (dovecotelaw13_awake.calls  false _ A3.out).mono ?_); rintro e w' ⟨rfl, ⟨nd, rfl⟩⟩; (try first | exact ⟨rfl, _, World.drewN_drewN _ _ _⟩ | exact ⟨rfl, _, Eq.trans (World.drewN_drewN _ _ _) (congrArg (World.drewN _) (Nat.add_assoc _ _ _))⟩)))
    repeat (go_quiet (first | (go_at_call 8; (with_reducible refine (dovecotelaw13_awake.calls  false _ A3.out).mono ?_); rintro e w' ⟨rfl, ⟨nd, rfl⟩⟩; (try first | exact ⟨rfl, _, World.drewN_drewN _ _ _⟩ | exact ⟨rfl, _, Eq.trans (World.drewN_drewN _ _ _) (congrArg (World.drewN _) (Nat.add_assoc _ _ _))⟩))); try go_wp2_with (first | (go_at_call 8; (with_reducible refine (dovecotelaw13_awake.calls  false _ A3.out).mono ?_); rintro e w' ⟨rfl, ⟨nd, rfl⟩⟩; (try first | exact ⟨rfl, _, World.drewN_drewN _ _ _⟩ | exact ⟨rfl, _, Eq.trans (World.drewN_drewN _ _ _) (congrArg (World.drewN _) (Nat.add_assoc _ _ _))⟩))))
    go_ret
    exact ⟨by first | rfl | (simp [errW_none, errW_some] <;> rfl) | (simp [*, errW_none, errW_some] <;> rfl), by repeat (first | (with_reducible first | exact HB.out | apply below_alloc | apply pw_below_drewN | apply below_drew1) | exact HB.out)⟩

end Go.Proofs.Ytbodaohbmekekaa.PPlaceSplits

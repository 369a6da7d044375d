/- Contracts of Go functions and what each computes, as plain Lean functions: written by a program of this session over the kit's own print. Conditions: those that each theorem names. -/
import Derived.Test.YtapgmedfedcliaaPLcx0
import Derived.Test.YtapgmedfedcliaaPLcx1
namespace Go.Proofs.Ytapgmedfedcliaa.PLc
open Go.Proofs.Ytapgmedfedcliaa
open Go.RowKit Go.Proofs.YtapgmedfedcliaaW.PrintWords Go.Proofs.YtapgmedfedcliaaW.PrintLast Go.Proofs.YtapgmedfedcliaaW.PrintMore
attribute [local go_sem] max2_int min2_int max_two min_two max_three min_three max_four min_four   -- for this text's walks alone
set_option linter.unusedVariables false
set_option linter.unusedSimpArgs false

/-! ### dovecotelaw03_FrameCut: function 8 -/
mutual
def dovecotelaw03_FrameCut.l0 : Nat → List ByteArray → Int → ByteArray → List Int → List ByteArray → Int → Int → Option (Bool)
  | 0, _, _, _, _, _, _, _ => none
  | k + 1, x0, x1, x5, x6, x20, x21, x22 => if x22 < x21 then (if 0 ≤ x22 then (if x22 < (x20.length : Int) then (if ((rdOf ByteArray.empty x20 x22).size : Int) > 3000 then (some true) else ((frame_Wrap.f (rdOf ByteArray.empty x20 x22)).bind fun bt110 => (if x5.size + bt110.1.size ≤ 9223372036854775807 then (if x6.length < 17592186044416 then (dovecotelaw03_FrameCut.l0 k x0 x1 (x5 ++ bt110.1) (x6 ++ [((x5 ++ bt110.1).size : Int)]) x20 x21 (wrap64 (x22 + 1))) else (none)) else (none)))) else (none)) else (none)) else (if x1 < 0 then (dovecotelaw03_FrameCut.j1 k x0 x1 x5 x6 true) else (dovecotelaw03_FrameCut.j1 k x0 x1 x5 x6 (decide (x1 > (x5.size : Int)))))
def dovecotelaw03_FrameCut.j1 : Nat → List ByteArray → Int → ByteArray → List Int → Bool → Option (Bool)
  | 0, _, _, _, _, _ => none
  | k + 1, x0, x1, x5, x6, x50 => if x50 = true then (some true) else (if 0 ≤ x1 then (if x1 ≤ (x5.size : Int) then ((frame_Scan.f (x5.extract 0 (x1 : Int).toNat)).bind fun bt115 => (dovecotelaw03_FrameCut.l1 k x0 x1 x6 bt115.1 bt115.2 0 0)) else (none)) else (none))
def dovecotelaw03_FrameCut.l1 : Nat → List ByteArray → Int → List Int → List ByteArray → Int → Int → Int → Option (Bool)
  | 0, _, _, _, _, _, _, _ => none
  | k + 1, x0, x1, x6, x11, x12, x13, x14 => if x13 < (x0.length : Int) then (if 0 ≤ x13 then (if x13 < (x6.length : Int) then (if (rd x6 x13) ≤ x1 then (dovecotelaw03_FrameCut.l1 k x0 x1 x6 x11 x12 (wrap64 (x13 + 1)) (rd x6 x13)) else (if x13 ≤ (x0.length : Int) then ((dovecoteref03_Same.f k x11 (x0.take (x13 : Int).toNat)).bind fun t122 => (if t122 = true then (some (x12 == x14)) else (some false))) else (none))) else (none)) else (none)) else (if 0 ≤ x13 then (if x13 ≤ (x0.length : Int) then ((dovecoteref03_Same.f k x11 (x0.take (x13 : Int).toNat)).bind fun t124 => (if t124 = true then (some (x12 == x14)) else (some false))) else (none)) else (none))
end
def dovecotelaw03_FrameCut.f (k : Nat) (l0 : List ByteArray) (a1 : Int) : Option (Bool) := (dovecotelaw03_awake.f).bind fun t108 => (if t108 = true then (if (l0.length : Int) > 20 then (some true) else (dovecotelaw03_FrameCut.l0 k l0 a1 (⟨#[]⟩ : ByteArray) ([] : List Int) l0 (l0.length : Int) 0)) else (some false))
theorem dovecotelaw03_FrameCut.mono_l : ∀ k, (∀ y0 y1 y2 y3 y4 y5 y6, LeO (dovecotelaw03_FrameCut.l0 k y0 y1 y2 y3 y4 y5 y6) (dovecotelaw03_FrameCut.l0 (k + 1) y0 y1 y2 y3 y4 y5 y6)) ∧ (∀ y0 y1 y2 y3 y4, LeO (dovecotelaw03_FrameCut.j1 k y0 y1 y2 y3 y4) (dovecotelaw03_FrameCut.j1 (k + 1) y0 y1 y2 y3 y4)) ∧ (∀ y0 y1 y2 y3 y4 y5 y6, LeO (dovecotelaw03_FrameCut.l1 k y0 y1 y2 y3 y4 y5 y6) (dovecotelaw03_FrameCut.l1 (k + 1) y0 y1 y2 y3 y4 y5 y6))
  | 0 => ⟨fun _ _ _ _ _ _ _ r h => by simp [dovecotelaw03_FrameCut.l0] at h, fun _ _ _ _ _ r h => by simp [dovecotelaw03_FrameCut.j1] at h, fun _ _ _ _ _ _ _ r h => by simp [dovecotelaw03_FrameCut.l1] at h⟩
  | k + 1 => by
    obtain ⟨ih0, ih1, ih2⟩ := dovecotelaw03_FrameCut.mono_l k
    refine ⟨?_, ?_, ?_⟩
    · intro y0 y1 y2 y3 y4 y5 y6
      unfold dovecotelaw03_FrameCut.l0
      repeat' first
      | (with_reducible exact ih0 _ _ _ _ _ _ _)
      | (with_reducible exact ih1 _ _ _ _ _)
      | (with_reducible exact ih2 _ _ _ _ _ _ _)
      | (with_reducible exact dovecoteref03_Same.mono _ _ _)
      | (with_reducible exact LeO.refl _)
      | (with_reducible exact LeO.none _)
      | (with_reducible refine LeO.ite ?_ ?_)
      | (with_reducible refine LeO.bind ?_ (fun _ => ?_))
      | exact ih0 _ _ _ _ _ _ _
      | exact ih1 _ _ _ _ _
      | exact ih2 _ _ _ _ _ _ _
      | exact dovecoteref03_Same.mono _ _ _
      | exact LeO.none _
      | refine LeO.ite ?_ ?_
      | refine LeO.bind ?_ (fun _ => ?_)
    · intro y0 y1 y2 y3 y4
      unfold dovecotelaw03_FrameCut.j1
      repeat' first
      | (with_reducible exact ih0 _ _ _ _ _ _ _)
      | (with_reducible exact ih1 _ _ _ _ _)
      | (with_reducible exact ih2 _ _ _ _ _ _ _)
      | (with_reducible exact dovecoteref03_Same.mono _ _ _)
      | (with_reducible exact LeO.refl _)
      | (with_reducible exact LeO.none _)
      | (with_reducible refine LeO.ite ?_ ?_)
      | (with_reducible refine LeO.bind ?_ (fun _ => ?_))
      | exact ih0 _ _ _ _ _ _ _
      | exact ih1 _ _ _ _ _
      | exact ih2 _ _ _ _ _ _ _
      | exact dovecoteref03_Same.mono _ _ _
      | exact LeO.none _
      | refine LeO.ite ?_ ?_
      | refine LeO.bind ?_ (fun _ => ?_)
    · intro y0 y1 y2 y3 y4 y5 y6
      unfold dovecotelaw03_FrameCut.l1
      repeat' first
      | (with_reducible exact ih0 _ _ _ _ _ _ _)
      | (with_reducible exact ih1 _ _ _ _ _)
      | (with_reducible exact ih2 _ _ _ _ _ _ _)
      | (with_reducible exact dovecoteref03_Same.mono _ _ _)
      | (with_reducible exact LeO.refl _)
      | (with_reducible exact LeO.none _)
      | (with_reducible refine LeO.ite ?_ ?_)
      | (with_reducible refine LeO.bind ?_ (fun _ => ?_))
      | exact ih0 _ _ _ _ _ _ _
      | exact ih1 _ _ _ _ _
      | exact ih2 _ _ _ _ _ _ _
      | exact dovecoteref03_Same.mono _ _ _
      | exact LeO.none _
      | refine LeO.ite ?_ ?_
      | refine LeO.bind ?_ (fun _ => ?_)
theorem dovecotelaw03_FrameCut.mono : ∀ a0 a1 k, LeO (dovecotelaw03_FrameCut.f k a0 a1) (dovecotelaw03_FrameCut.f (k + 1) a0 a1) := by
  intro a0 a1 k
  obtain ⟨ih0, ih1, ih2⟩ := dovecotelaw03_FrameCut.mono_l k
  unfold dovecotelaw03_FrameCut.f
  repeat' first
      | (with_reducible exact ih0 _ _ _ _ _ _ _)
      | (with_reducible exact ih1 _ _ _ _ _)
      | (with_reducible exact ih2 _ _ _ _ _ _ _)
      | (with_reducible exact dovecoteref03_Same.mono _ _ _)
      | (with_reducible exact LeO.refl _)
      | (with_reducible exact LeO.none _)
      | (with_reducible refine LeO.ite ?_ ?_)
      | (with_reducible refine LeO.bind ?_ (fun _ => ?_))
      | exact ih0 _ _ _ _ _ _ _
      | exact ih1 _ _ _ _ _
      | exact ih2 _ _ _ _ _ _ _
      | exact dovecoteref03_Same.mono _ _ _
      | exact LeO.none _
      | refine LeO.ite ?_ ?_
      | refine LeO.bind ?_ (fun _ => ?_)
set_option maxHeartbeats 8000000 in
set_option maxRecDepth 100000 in
theorem dovecotelaw03_FrameCut.calls (k : Nat) (A0 : Option Addr) (c0 : Nat) (l0 : List ByteArray) (a1 : Int) (r : Bool) (w : World) (hr0 : Kd.C Kd.string w A0 l0.length l0) (hc0 : l0.length ≤ c0) (h : dovecotelaw03_FrameCut.f k l0 a1 = some r) :
    Calls Try.prog 8 #[.slice A0 l0.length c0, .int .i64 a1] w fun e w' => e = .returned (.bool r) ∧ Below w.heap.size w w' := by
  have HR0 := Aside0.mk hr0
  have HC0 := Aside0.mk hc0
  clear hr0 hc0
  have HB := Aside0.mk (Below.refl w.heap.size w)
  have H : ((dovecotelaw03_awake.f).bind fun t108 => (if t108 = true then (if (l0.length : Int) > 20 then (some true) else (dovecotelaw03_FrameCut.l0 k l0 a1 (⟨#[]⟩ : ByteArray) ([] : List Int) l0 (l0.length : Int) 0)) else (some false))) = some r := h
  clear h
  replace H := Option.bind_eq_some_iff.mp H
  obtain ⟨t108, A30, H⟩ := H
  replace H : (if t108 = true then (if (l0.length : Int) > 20 then (some true) else (dovecotelaw03_FrameCut.l0 k l0 a1 (⟨#[]⟩ : ByteArray) ([] : List Int) l0 (l0.length : Int) 0)) else (some false)) = some r := H
  have A3 := Aside0.mk A30
  clear A30
  by_cases c4 : t108 = true
  · subst c4
    have H1 : (if (l0.length : Int) > 20 then (some true) else (dovecotelaw03_FrameCut.l0 k l0 a1 (⟨#[]⟩ : ByteArray) ([] : List Int) l0 (l0.length : Int) 0)) = some r := by rw [if_pos rfl] at H; exact H
    clear H
    have H := H1
    clear H1
    by_cases c5 : (l0.length : Int) > 20
    · rw [if_pos c5] at H
      have c5b0 : decide (20 < (l0.length : Int)) = true := decide_eq_true c5
      have c5b1 : decide (20 < l0.length) = true := decide_eq_true (by omega)
      clear c5
      obtain rfl := Option.some.inj H
      go_enter Try.func8, Try.ntmps8
      go_wp2_with (first | ((with_reducible refine gate_callee (f := 9) rfl ?_); refine goesL_ (some 15) rfl rfl Try.func9 (by kernel_rfl) rfl #[] rfl (by (try simp only [List.map_toArray, List.map_cons, List.map_nil]); first | done | rfl | (simp only [List.length_drop, List.length_take]; rfl)) ?_; (with_reducible refine (dovecotelaw03_awake.calls  true _ A3.out).mono ?_); rintro e w6 ⟨rfl, hb⟩; refine ⟨_, rfl, ?_⟩; have n0_ := Aside0.mk (below_step (by repeat (first | (with_reducible first | exact HB.out | apply below_alloc | apply pw_below_drewN | apply below_drew1) | exact HB.out)) hb); clear HB; have HB := n0_; clear n0_; (try clear hb); (try clear hb2); (try clear hk); (try clear hi)))
      go_ret
      exact ⟨by first | rfl | (simp [errW_none, errW_some] <;> rfl) | (simp [*, errW_none, errW_some] <;> rfl), by repeat (first | (with_reducible first | exact HB.out | apply below_alloc | apply pw_below_drewN | apply below_drew1) | exact HB.out)⟩
    · rw [if_neg c5] at H
      have c5b0 : decide (20 < (l0.length : Int)) = false := decide_eq_false c5
      have c5b1 : decide (20 < l0.length) = false := decide_eq_false (by omega)
      clear c5
      have H' := Aside0.mk H
      clear H
      go_enter Try.func8, Try.ntmps8
      go_wp2_with (first | ((with_reducible refine gate_callee (f := 9) rfl ?_); refine goesL_ (some 15) rfl rfl Try.func9 (by kernel_rfl) rfl #[] rfl (by (try simp only [List.map_toArray, List.map_cons, List.map_nil]); first | done | rfl | (simp only [List.length_drop, List.length_take]; rfl)) ?_; (with_reducible refine (dovecotelaw03_awake.calls  true _ A3.out).mono ?_); rintro e w7 ⟨rfl, hb⟩; refine ⟨_, rfl, ?_⟩; have n0_ := Aside0.mk (below_step (by repeat (first | (with_reducible first | exact HB.out | apply below_alloc | apply pw_below_drewN | apply below_drew1) | exact HB.out)) hb); clear HB; have HB := n0_; clear n0_; (try clear hb); (try clear hb2); (try clear hk); (try clear hi)))
      go_loopg [5, 6, 22] k (fun kq v5 v6 v22 w' => ∃ (x5_1 : ByteArray) (x6_1 : List Int) (x22_1 : Int), v5 = .string x5_1 ∧ v22 = .int .i64 x22_1 ∧ Aside0 (dovecotelaw03_FrameCut.l0 kq l0 a1 x5_1 x6_1 l0 (l0.length : Int) x22_1 = some r) ∧ Aside0 (kq ≤ k) ∧ Aside0 (Kd.R (Kd.int .i64) 3 w' w.heap.size (fun _ => True) v6 x6_1) ∧ Aside0 (Below w.heap.size w w'))
      case atStart => exact ⟨((⟨#[]⟩ : ByteArray)), (([] : List Int)), (0), (by first | rfl | (simp; done) | (simp [*]; done)), (by first | rfl | (simp; done) | (simp [*]; done)), H', ⟨Nat.le_refl _⟩, ⟨by first | exact Kd.R_nil _ _ _ _ _ | exact Kd.N_nil _ _ _ _ _ | exact Kd.V_nil _ _ _ _ _ | exact Kd.Q_nil _ _ _ _ _ | exact Kd.S_nil _ _ _ _ _⟩, ⟨by repeat (first | (with_reducible first | exact HB.out | apply below_alloc | apply pw_below_drewN | apply below_drew1) | exact HB.out)⟩⟩
      case round =>
        clear H'
        try clear p2
        try clear c4
        try clear c5
        try clear c5b0
        try clear c5b1
        obtain ⟨x5_1, x6_1, x22_1, rfl, rfl, HA, HK1, HO_6, HB⟩ := hrel
        cases gk with
        | zero => exact absurd HA.out (by simp [dovecotelaw03_FrameCut.l0])
        | succ k1 =>
          have H := HA.out
          clear HA
          simp only [dovecotelaw03_FrameCut.l0] at H
          by_cases c8 : x22_1 < (l0.length : Int)
          · rw [if_pos c8] at H
            have c8b0 : decide (x22_1 < (l0.length : Int)) = true := decide_eq_true c8
            clear c8
            by_cases c9 : 0 ≤ x22_1
            · rw [if_pos c9] at H
              have c9b0 : decide (0 ≤ x22_1) = true := decide_eq_true c9
              clear c9
              by_cases c10 : x22_1 < (l0.length : Int)
              · rw [if_pos c10] at H
                have c10b0 : decide (x22_1 < (l0.length : Int)) = true := decide_eq_true c10
                clear c10
                by_cases c11 : ((rdOf ByteArray.empty l0 x22_1).size : Int) > 3000
                · rw [if_pos c11] at H
                  have c11b0 : decide (3000 < ((rdOf ByteArray.empty l0 x22_1).size : Int)) = true := decide_eq_true c11
                  have c11b1 : decide (3000 < (rdOf ByteArray.empty l0 x22_1).size) = true := decide_eq_true (by omega)
                  clear c11
                  obtain rfl := Option.some.inj H
                  have p109 : 0 ≤ (x22_1 : Int) := of_decide_eq_true (by first | (with_reducible assumption) | assumption)
                  have q109 : x22_1 < (l0.length : Int) := of_decide_eq_true (by first | (with_reducible assumption) | assumption)
                  obtain ⟨ad109, e109, hx109_0⟩ := Kd.at_string HR0.out x22_1 p109 q109
                  cases e109
                  replace hx109_0 := (HB.out.cell (World.block_lt_of_cell? w _ hx109_0)).trans hx109_0
                  replace p109 := eq_true p109
                  replace q109 := eq_true q109
                  go_wp2
                  go_ret
                  exact ⟨by first | rfl | (simp [errW_none, errW_some] <;> rfl) | (simp [*, errW_none, errW_some] <;> rfl), by repeat (first | (with_reducible first | exact HB.out | apply below_alloc | apply pw_below_drewN | apply below_drew1) | exact HB.out)⟩
                · rw [if_neg c11] at H
                  have c11b0 : decide (3000 < ((rdOf ByteArray.empty l0 x22_1).size : Int)) = false := decide_eq_false c11
                  have c11b1 : decide (3000 < (rdOf ByteArray.empty l0 x22_1).size) = false := decide_eq_false (by omega)
                  clear c11
                  replace H := Option.bind_eq_some_iff.mp H
                  obtain ⟨⟨t110, t111⟩, A120, H⟩ := H
                  replace H : (if x5_1.size + t110.size ≤ 9223372036854775807 then (if x6_1.length < 17592186044416 then (dovecotelaw03_FrameCut.l0 k1 l0 a1 (x5_1 ++ t110) (x6_1 ++ [((x5_1 ++ t110).size : Int)]) l0 (l0.length : Int) (wrap64 (x22_1 + 1))) else (none)) else (none)) = some r := H
                  have A12 := Aside0.mk A120
                  clear A120
                  by_cases c13 : x5_1.size + t110.size ≤ 9223372036854775807
                  · rw [if_pos c13] at H
                    have c13b0 := eq_true c13
                    have c13b1 : decide (x5_1.size + t110.size ≤ 9223372036854775807) = true := decide_eq_true c13
                    try have c13b2 : (9223372036854775807 < x5_1.size + t110.size) = False := eq_false (Nat.not_lt.2 c13)
                    by_cases c14 : x6_1.length < 17592186044416
                    · rw [if_pos c14] at H
                      have LMc14 := Aside0.mk c14
                      clear c14
                      obtain ⟨y112, hy112⟩ : ∃ y_ : List Int, y_ = (x6_1 ++ [((x5_1 ++ t110).size : Int)]) := ⟨_, rfl⟩
                      replace H : (dovecotelaw03_FrameCut.l0 k1 l0 a1 (x5_1 ++ t110) y112 l0 (l0.length : Int) (wrap64 (x22_1 + 1))) = some r := by first | (rw [hy112]; with_reducible exact H) | (have H2_ := (Option.bind_some _ _).symm.trans H; rw [hy112]; with_reducible exact H2_) | (have H2_ := (Option.bind_some _ _).symm.trans H; with_reducible exact H2_) | with_reducible exact H | (rw [hy112]; exact H) | exact H
                      have Ny112 : Aside0 (y112 = (x6_1 ++ [((x5_1.size : Int) + (t110.size : Int))])) := ⟨by rw [hy112, ByteArray.size_append]; simp⟩
                      clear hy112
                      have H' := Aside0.mk H
                      clear H
                      have p109 : 0 ≤ (x22_1 : Int) := of_decide_eq_true (by first | (with_reducible assumption) | assumption)
                      have q109 : x22_1 < (l0.length : Int) := of_decide_eq_true (by first | (with_reducible assumption) | assumption)
                      obtain ⟨ad109, e109, hx109_0⟩ := Kd.at_string HR0.out x22_1 p109 q109
                      cases e109
                      replace hx109_0 := (HB.out.cell (World.block_lt_of_cell? w _ hx109_0)).trans hx109_0
                      replace p109 := eq_true p109
                      replace q109 := eq_true q109
                      go_wp2_with (first | ((with_reducible refine gate_callee (f := 10) rfl ?_); refine goesL_ (some 31) rfl rfl Try.func10 (by kernel_rfl) rfl #[.string (rdOf ByteArray.empty l0 x22_1)] rfl (by (try simp only [List.map_toArray, List.map_cons, List.map_nil]); first | done | rfl | (simp only [List.length_drop, List.length_take]; rfl)) ?_; (with_reducible refine (frame_Wrap.calls (rdOf ByteArray.empty l0 x22_1) t110 t111 _ A12.out).mono ?_); rintro e w15 ⟨rfl, hb⟩; refine ⟨_, rfl, ?_⟩; have n0_ := Aside0.mk (Kd.R_below (by (with_reducible repeat (first | apply Kd.R_alloc | apply Kd.R_drewN | apply Kd.R_drew)); exact HO_6.out) hb); have n1_ := Aside0.mk (below_step (by repeat (first | (with_reducible first | exact HB.out | apply below_alloc | apply pw_below_drewN | apply below_drew1) | exact HB.out)) hb); clear HO_6; clear HB; have HO_6 := n0_; have HB := n1_; clear n0_ n1_; (try clear hb); (try clear hb2); (try clear hk); (try clear hi)) | ((with_reducible refine gate_builtin (b := .append) (xs := #[.tmp 37, .tmp 40]) rfl ?_); (try (refine gate_guard (by rfl) ?_; dsimp only)); at_builtin; refine Kd.R_append (Kd.int .i64) (w0 := w) w.heap.size rfl (.tmp 37) (.tmp 40) 43 3 (.int .i64 0) 8 rfl Try.underlying43 info3 rfl (by decide) (by omega) u6 x6_1 ((x5_1.size : Int) + (t110.size : Int)) [.int .i64 ((x5_1.size : Int) + (t110.size : Int))] (fun _ => True) (fun _ => False) rfl rfl ?aP (fun _ hk => hk.elim) ?aF ?aO ?aB ?aS ?aL ?_; (case aP => exact rfl); (case aB => exact (by repeat (first | (with_reducible first | exact HB.out | apply below_alloc | apply pw_below_drewN | apply below_drew1) | exact HB.out))); (case aF => exact (fun _ _ => trivial)); (case aO => exact (by (with_reducible repeat (first | apply Kd.R_alloc | apply Kd.R_drewN | apply Kd.R_drew)); exact HO_6.out)); (case aS => exact (below_size (by repeat (first | (with_reducible first | exact HB.out | apply below_alloc | apply pw_below_drewN | apply below_drew1) | exact HB.out)))); (case aL => have := LMc14.out; omega); intro v113 w16 ho hb hg hat; rw [← Ny112.out] at ho; have n0_ := Aside0.mk (hb); have n1_ := Aside0.mk (ho); clear HB; clear HO_6; have HB := n0_; have HO114 := n1_; clear n0_ n1_; clear ho hb hg hat))
                      go_roundg k1
                      case measure => have := HK1.out; omega
                      case rel => exact ⟨(x5_1 ++ t110), (y112), (wrap64 (x22_1 + 1)), (by first | rfl | (simp; done) | (simp [*]; done)), (by first | rfl | (simp; done) | (simp [*]; done)), H', ⟨by have := HK1.out; omega⟩, ⟨by (with_reducible repeat (first | apply Kd.R_alloc | apply Kd.R_drewN | apply Kd.R_drew)); exact HO114.out⟩, ⟨by repeat (first | (with_reducible first | exact HB.out | apply below_alloc | apply pw_below_drewN | apply below_drew1) | exact HB.out)⟩⟩
                    · rw [if_neg c14] at H
                      exact absurd H (by simp)
                  · rw [if_neg c13] at H
                    exact absurd H (by simp)
              · rw [if_neg c10] at H
                exact absurd H (by simp)
            · rw [if_neg c9] at H
              exact absurd H (by simp)
          · rw [if_neg c8] at H
            have c8b0 : decide (x22_1 < (l0.length : Int)) = false := decide_eq_false c8
            clear c8
            have HC17 := Aside0.mk H
            clear H
            go_upto_region 16 with (fail)
            go_cut [50] (fun v50 wc => ∃ (kq : Nat) (x50_16 : Bool), v50 = .bool x50_16 ∧ Aside0 (dovecotelaw03_FrameCut.j1 kq l0 a1 x5_1 x6_1 x50_16 = some r) ∧ Aside0 (kq ≤ k1) ∧ Aside0 (Kd.R (Kd.int .i64) 3 wc w.heap.size (fun _ => True) u6 x6_1) ∧ Aside0 (Below w.heap.size w wc))
            case first =>
              have H := HC17.out
              clear HC17
              by_cases c18 : a1 < 0
              · rw [if_pos c18] at H
                have c18b0 : decide (a1 < 0) = true := decide_eq_true c18
                clear c18
                (first | rw [c18b0] | (simp only [i64_w, i32_w]; rw [c18b0]) | skip)
                have H' := Aside0.mk H
                clear H
                go_wp2
                go_meet
                case rel => exact ⟨_, (true), (by first | rfl | (simp; done) | (simp [*]; done)), H', ⟨by have := HK1.out; first | omega | exact Nat.le_refl _⟩, ⟨by (with_reducible repeat (first | apply Kd.R_alloc | apply Kd.R_drewN | apply Kd.R_drew)); exact HO_6.out⟩, ⟨by repeat (first | (with_reducible first | exact HB.out | apply below_alloc | apply pw_below_drewN | apply below_drew1) | exact HB.out)⟩⟩
              · rw [if_neg c18] at H
                have c18b0 : decide (a1 < 0) = false := decide_eq_false c18
                clear c18
                (first | rw [c18b0] | (simp only [i64_w, i32_w]; rw [c18b0]) | skip)
                have H' := Aside0.mk H
                clear H
                go_wp2
                go_meet
                case rel => exact ⟨_, (decide (a1 > (x5_1.size : Int))), (by first | rfl | (simp; done) | (simp [*]; done)), H', ⟨by have := HK1.out; first | omega | exact Nat.le_refl _⟩, ⟨by (with_reducible repeat (first | apply Kd.R_alloc | apply Kd.R_drewN | apply Kd.R_drew)); exact HO_6.out⟩, ⟨by repeat (first | (with_reducible first | exact HB.out | apply below_alloc | apply pw_below_drewN | apply below_drew1) | exact HB.out)⟩⟩
            case rest =>
              clear HC17
              try clear c1
              try clear p1
              try clear q1
              try clear hx1
              try clear p2
              try clear c4
              try clear c5
              try clear c5b0
              try clear c5b1
              try clear p6
              try clear c8
              try clear c8b0
              try clear c9
              try clear c9b0
              try clear c10
              try clear c10b0
              try clear p10
              try clear q10
              try clear hx10
              try clear c11
              try clear c11b0
              try clear c11b1
              try clear c13
              try clear c13b0
              try clear c13b1
              try clear c13b2
              try clear c14
              try clear c18
              try clear c18b0
              try clear hx109_0
              try clear p109
              try clear p2
              try clear q109
              obtain ⟨kq, x50_16, rfl, HA, HJ16, HO_6, HB⟩ := hcut
              cases kq with
              | zero => exact absurd HA.out (by simp [dovecotelaw03_FrameCut.j1])
              | succ kj16 =>
                have H := HA.out
                clear HA
                simp only [dovecotelaw03_FrameCut.j1] at H
                by_cases c19 : x50_16 = true
                · subst c19
                  have H1 : (some true) = some r := by rw [if_pos rfl] at H; exact H
                  clear H
                  have H := H1
                  clear H1
                  obtain rfl := Option.some.inj H
                  go_wp2
                  go_ret
                  exact ⟨by first | rfl | (simp [errW_none, errW_some] <;> rfl) | (simp [*, errW_none, errW_some] <;> rfl), by repeat (first | (with_reducible first | exact HB.out | apply below_alloc | apply pw_below_drewN | apply below_drew1) | exact HB.out)⟩
                · replace c19 := Bool.eq_false_iff.mpr c19
                  subst c19
                  have H1 : (if 0 ≤ a1 then (if a1 ≤ (x5_1.size : Int) then ((frame_Scan.f (x5_1.extract 0 (a1 : Int).toNat)).bind fun bt115 => (dovecotelaw03_FrameCut.l1 kj16 l0 a1 x6_1 bt115.1 bt115.2 0 0)) else (none)) else (none)) = some r := by rw [if_neg (show ¬ (false = true) by decide)] at H; exact H
                  clear H
                  have H := H1
                  clear H1
                  by_cases c20 : 0 ≤ a1
                  · rw [if_pos c20] at H
                    have c20b0 := eq_true c20
                    have c20b1 : decide (0 ≤ a1) = true := decide_eq_true c20
                    clear c20
                    by_cases c21 : a1 ≤ (x5_1.size : Int)
                    · rw [if_pos c21] at H
                      have c21b0 := eq_true c21
                      have c21b1 : decide (a1 ≤ (x5_1.size : Int)) = true := decide_eq_true c21
                      clear c21
                      replace H := Option.bind_eq_some_iff.mp H
                      obtain ⟨⟨t115, t116⟩, A220, H⟩ := H
                      replace H : (dovecotelaw03_FrameCut.l1 kj16 l0 a1 x6_1 t115 t116 0 0) = some r := H
                      have A22 := Aside0.mk A220
                      clear A220
                      have H' := Aside0.mk H
                      clear H
                      go_wp2_with (first | ((with_reducible refine gate_callee (f := 16) rfl ?_); refine goesL_ (some 55) rfl rfl Try.func16 (by kernel_rfl) rfl #[.string (x5_1.extract 0 (a1 : Int).toNat)] rfl (by (try simp only [List.map_toArray, List.map_cons, List.map_nil]); first | done | rfl | (simp only [List.length_drop, List.length_take]; rfl)) ?_; (with_reducible refine (frame_Scan.calls (x5_1.extract 0 (a1 : Int).toNat) t115 t116 _ A22.out).mono ?_); rintro e w23 ⟨v117, rfl, ho0, hb⟩; refine ⟨_, rfl, ?_⟩; have n0_ := Aside0.mk (Kd.R_below (by (with_reducible repeat (first | apply Kd.R_alloc | apply Kd.R_drewN | apply Kd.R_drew)); exact HO_6.out) hb); have n1_ := Aside0.mk (Kd.R_lower ho0 (below_size (by repeat (first | (with_reducible first | exact HB.out | apply below_alloc | apply pw_below_drewN | apply below_drew1) | exact HB.out)))); have n2_ := Aside0.mk (below_step (by repeat (first | (with_reducible first | exact HB.out | apply below_alloc | apply pw_below_drewN | apply below_drew1) | exact HB.out)) hb); clear HO_6; clear HB; have HO_6 := n0_; have HO118 := n1_; have HB := n2_; clear n0_ n1_ n2_; (try clear hb); (try clear hb2); (try clear hk); (try clear hi); (try clear ho0)))
                      go_loopg [13, 14] kj16 (fun kq v13 v14 w' => ∃ (x13_3 : Int) (x14_3 : Int), v13 = .int .i64 x13_3 ∧ v14 = .int .i64 x14_3 ∧ Aside0 (dovecotelaw03_FrameCut.l1 kq l0 a1 x6_1 t115 t116 x13_3 x14_3 = some r) ∧ Aside0 (kq ≤ kj16) ∧ Aside0 (Kd.R (Kd.int .i64) 3 w' w.heap.size (fun _ => True) u6 x6_1) ∧ Aside0 (Kd.R Kd.string 9 w' w.heap.size (fun _ => True) v117 t115) ∧ Aside0 (Below w.heap.size w w'))
                      case atStart => exact ⟨(0), (0), (by first | rfl | (simp; done) | (simp [*]; done)), (by first | rfl | (simp; done) | (simp [*]; done)), H', ⟨Nat.le_refl _⟩, ⟨by (with_reducible repeat (first | apply Kd.R_alloc | apply Kd.R_drewN | apply Kd.R_drew)); exact HO_6.out⟩, ⟨by (with_reducible repeat (first | apply Kd.R_alloc | apply Kd.R_drewN | apply Kd.R_drew)); exact HO118.out⟩, ⟨by repeat (first | (with_reducible first | exact HB.out | apply below_alloc | apply pw_below_drewN | apply below_drew1) | exact HB.out)⟩⟩
                      case round =>
                        clear H'
                        try clear c1
                        try clear p1
                        try clear q1
                        try clear hx1
                        try clear c2
                        try clear p2
                        try clear c4
                        try clear c5
                        try clear c5b0
                        try clear c5b1
                        try clear p6
                        try clear c8
                        try clear c8b0
                        try clear c9
                        try clear c9b0
                        try clear c10
                        try clear c10b0
                        try clear p10
                        try clear q10
                        try clear hx10
                        try clear c11
                        try clear c11b0
                        try clear c11b1
                        try clear c13
                        try clear c13b0
                        try clear c13b1
                        try clear c13b2
                        try clear c14
                        try clear c16
                        try clear c18
                        try clear c18b0
                        try clear c19
                        try clear c20
                        try clear c20b0
                        try clear c20b1
                        try clear c21
                        try clear c21b0
                        try clear c21b1
                        try clear hx109_0
                        try clear p1
                        try clear p10
                        try clear p109
                        try clear p2
                        try clear p6
                        try clear q1
                        try clear q10
                        try clear q109
                        obtain ⟨x13_3, x14_3, rfl, rfl, HA, HK3, HO_6, HO_11, HB⟩ := hrel
                        cases gk with
                        | zero => exact absurd HA.out (by simp [dovecotelaw03_FrameCut.l1])
                        | succ k3 =>
                          have H := HA.out
                          clear HA
                          simp only [dovecotelaw03_FrameCut.l1] at H
                          by_cases c24 : x13_3 < (l0.length : Int)
                          · rw [if_pos c24] at H
                            have c24b0 : decide (x13_3 < (l0.length : Int)) = true := decide_eq_true c24
                            clear c24
                            by_cases c25 : 0 ≤ x13_3
                            · rw [if_pos c25] at H
                              have c25b0 : decide (0 ≤ x13_3) = true := decide_eq_true c25
                              clear c25
                              by_cases c26 : x13_3 < (x6_1.length : Int)
                              · rw [if_pos c26] at H
                                have c26b0 : decide (x13_3 < (x6_1.length : Int)) = true := decide_eq_true c26
                                clear c26
                                by_cases c27 : (rd x6_1 x13_3) ≤ a1
                                · rw [if_pos c27] at H
                                  have c27b0 : decide ((rd x6_1 x13_3) ≤ a1) = true := decide_eq_true c27
                                  clear c27
                                  have H' := Aside0.mk H
                                  clear H
                                  obtain ⟨Ao28, co28, eo28⟩ := Kd.R_slice HO_6.out
                                  subst eo28
                                  have p119 : 0 ≤ (x13_3 : Int) := of_decide_eq_true (by first | (with_reducible assumption) | assumption)
                                  have q119 : x13_3 < (x6_1.length : Int) := of_decide_eq_true (by first | (with_reducible assumption) | assumption)
                                  obtain ⟨ad119, e119, hx119_0⟩ := Kd.at_int (Kd.R_reads' HO_6.out).2.2 x13_3 p119 q119
                                  cases e119
                                  replace p119 := eq_true p119
                                  replace q119 := eq_true q119
                                  have p120 : 0 ≤ (x13_3 : Int) := of_decide_eq_true (by first | (with_reducible assumption) | assumption)
                                  have q120 : x13_3 < (x6_1.length : Int) := of_decide_eq_true (by first | (with_reducible assumption) | assumption)
                                  obtain ⟨ad120, e120, hx120_0⟩ := Kd.at_int (Kd.R_reads' HO_6.out).2.2 x13_3 p120 q120
                                  obtain rfl : ad119 = ad120 := (by injection e120)
                                  replace p120 := eq_true p120
                                  replace q120 := eq_true q120
                                  go_wp2
                                  go_roundg k3
                                  case measure => have := HK1.out; have := HJ16.out; have := HK3.out; omega
                                  case rel => exact ⟨(wrap64 (x13_3 + 1)), (rd x6_1 x13_3), (by first | rfl | (simp; done) | (simp [*]; done)), (by first | rfl | (simp; done) | (simp [*]; done)), H', ⟨by have := HK1.out; have := HJ16.out; have := HK3.out; omega⟩, ⟨by (with_reducible repeat (first | apply Kd.R_alloc | apply Kd.R_drewN | apply Kd.R_drew)); exact HO_6.out⟩, ⟨by (with_reducible repeat (first | apply Kd.R_alloc | apply Kd.R_drewN | apply Kd.R_drew)); exact HO_11.out⟩, ⟨by repeat (first | (with_reducible first | exact HB.out | apply below_alloc | apply pw_below_drewN | apply below_drew1) | exact HB.out)⟩⟩
                                · rw [if_neg c27] at H
                                  have c27b0 : decide ((rd x6_1 x13_3) ≤ a1) = false := decide_eq_false c27
                                  clear c27
                                  have c29b0 := eq_true (of_decide_eq_true (by first | (with_reducible assumption) | assumption) : 0 ≤ x13_3)
                                  by_cases c30 : x13_3 ≤ (l0.length : Int)
                                  · rw [if_pos c30] at H
                                    have c30b0 := eq_true c30
                                    have c30b1 : decide (x13_3 ≤ (l0.length : Int)) = true := decide_eq_true c30
                                    clear c30
                                    replace H := Option.bind_eq_some_iff.mp H
                                    obtain ⟨t122, A310, H⟩ := H
                                    replace H : (if t122 = true then (some (t116 == x14_3)) else (some false)) = some r := H
                                    have A31 := Aside0.mk A310
                                    clear A310
                                    by_cases c32 : t122 = true
                                    · subst c32
                                      have H1 : (some (t116 == x14_3)) = some r := by rw [if_pos rfl] at H; exact H
                                      clear H
                                      have H := H1
                                      clear H1
                                      obtain rfl := Option.some.inj H
                                      obtain ⟨Ao33, co33, eo33⟩ := Kd.R_slice HO_6.out
                                      subst eo33
                                      have p119 : 0 ≤ (x13_3 : Int) := of_decide_eq_true (by first | (with_reducible assumption) | assumption)
                                      have q119 : x13_3 < (x6_1.length : Int) := of_decide_eq_true (by first | (with_reducible assumption) | assumption)
                                      obtain ⟨ad119, e119, hx119_0⟩ := Kd.at_int (Kd.R_reads' HO_6.out).2.2 x13_3 p119 q119
                                      cases e119
                                      replace p119 := eq_true p119
                                      replace q119 := eq_true q119
                                      obtain ⟨i034, hi034, _, hsz34, _⟩ := info_parts info9
                                      obtain ⟨hcut34, hA34, hC34⟩ := print_take_of (P := Try.prog) Value.string (⟨#[]⟩ : ByteArray) 38 9 .i64 Try.underlying38 hi034 hsz34 A0 c0 l0 x13_3 (of_decide_eq_true (by first | (with_reducible assumption) | assumption)) (of_decide_eq_true (by first | (with_reducible assumption) | assumption)) HC0.out
                                      have HR121 := Aside0.mk (Kd.C_of_reads (h1 := fun _ => rfl) (hA34 _ (Kd.reads_of_C HR0.out)))
                                      have HC121 := Aside0.mk hC34
                                      clear hA34 hC34 hi034 hsz34
                                      obtain ⟨Ao35, co35, eo35⟩ := Kd.R_slice HO_11.out
                                      subst eo35
                                      go_wp2_with (first | ((with_reducible refine gate_callee (f := 18) rfl ?_); refine goesL_ (some 80) rfl rfl Try.func18 (by kernel_rfl) rfl #[.slice Ao35 t115.length co35, .slice A0 (l0.take (x13_3 : Int).toNat).length c0] rfl (by (try simp only [List.map_toArray, List.map_cons, List.map_nil]); first | done | (rw [show (l0.take (x13_3 : Int).toNat).length = x13_3.toNat from (by rw [List.length_take]; have h_ : (x13_3 : Int) ≤ (l0.length : Int) := of_decide_eq_true (by first | (with_reducible assumption) | assumption); omega)] <;> rfl) | rfl | (simp only [List.length_drop, List.length_take]; rfl)) ?_; (with_reducible refine (dovecoteref03_Same.calls k3 _ _ t115 _ _ (l0.take (x13_3 : Int).toNat) true _ ?side1 ?side2 ?side3 ?side4 A31.out).mono ?_); (case side1 => repeat (first | exact (Kd.R_reads' HO_11.out).2.2 | (with_reducible refine Kd.C_alloc ?_ _) | (with_reducible refine Kd.C_drewN ?_ _) | (with_reducible refine Kd.C_drew ?_))); (case side2 => exact (Kd.R_reads' HO_11.out).2.1); (case side3 => repeat (first | exact (Kd.C_below HR121.out HB.out) | (with_reducible refine Kd.C_alloc ?_ _) | (with_reducible refine Kd.C_drewN ?_ _) | (with_reducible refine Kd.C_drew ?_))); (case side4 => exact HC121.out); rintro e w' ⟨rfl, ⟨nd, rfl⟩⟩; refine ⟨_, rfl, ?_⟩))
                                      go_ret
                                      exact ⟨by first | rfl | (simp [errW_none, errW_some] <;> rfl) | (simp [*, errW_none, errW_some] <;> rfl), by repeat (first | (with_reducible first | exact HB.out | apply below_alloc | apply pw_below_drewN | apply below_drew1) | exact HB.out)⟩
                                    · replace c32 := Bool.eq_false_iff.mpr c32
                                      subst c32
                                      have H1 : (some false) = some r := by rw [if_neg (show ¬ (false = true) by decide)] at H; exact H
                                      clear H
                                      have H := H1
                                      clear H1
                                      obtain rfl := Option.some.inj H
                                      obtain ⟨Ao36, co36, eo36⟩ := Kd.R_slice HO_6.out
                                      subst eo36
                                      have p119 : 0 ≤ (x13_3 : Int) := of_decide_eq_true (by first | (with_reducible assumption) | assumption)
                                      have q119 : x13_3 < (x6_1.length : Int) := of_decide_eq_true (by first | (with_reducible assumption) | assumption)
                                      obtain ⟨ad119, e119, hx119_0⟩ := Kd.at_int (Kd.R_reads' HO_6.out).2.2 x13_3 p119 q119
                                      cases e119
                                      replace p119 := eq_true p119
                                      replace q119 := eq_true q119
                                      obtain ⟨i037, hi037, _, hsz37, _⟩ := info_parts info9
                                      obtain ⟨hcut37, hA37, hC37⟩ := print_take_of (P := Try.prog) Value.string (⟨#[]⟩ : ByteArray) 38 9 .i64 Try.underlying38 hi037 hsz37 A0 c0 l0 x13_3 (of_decide_eq_true (by first | (with_reducible assumption) | assumption)) (of_decide_eq_true (by first | (with_reducible assumption) | assumption)) HC0.out
                                      have HR121 := Aside0.mk (Kd.C_of_reads (h1 := fun _ => rfl) (hA37 _ (Kd.reads_of_C HR0.out)))
                                      have HC121 := Aside0.mk hC37
                                      clear hA37 hC37 hi037 hsz37
                                      obtain ⟨Ao38, co38, eo38⟩ := Kd.R_slice HO_11.out
                                      subst eo38
                                      go_wp2_with (first | ((with_reducible refine gate_callee (f := 18) rfl ?_); refine goesL_ (some 80) rfl rfl Try.func18 (by kernel_rfl) rfl #[.slice Ao38 t115.length co38, .slice A0 (l0.take (x13_3 : Int).toNat).length c0] rfl (by (try simp only [List.map_toArray, List.map_cons, List.map_nil]); first | done | (rw [show (l0.take (x13_3 : Int).toNat).length = x13_3.toNat from (by rw [List.length_take]; have h_ : (x13_3 : Int) ≤ (l0.length : Int) := of_decide_eq_true (by first | (with_reducible assumption) | assumption); omega)] <;> rfl) | rfl | (simp only [List.length_drop, List.length_take]; rfl)) ?_; (with_reducible refine (dovecoteref03_Same.calls k3 _ _ t115 _ _ (l0.take (x13_3 : Int).toNat) false _ ?side1 ?side2 ?side3 ?side4 A31.out).mono ?_); (case side1 => repeat (first | exact (Kd.R_reads' HO_11.out).2.2 | (with_reducible refine Kd.C_alloc ?_ _) | (with_reducible refine Kd.C_drewN ?_ _) | (with_reducible refine Kd.C_drew ?_))); (case side2 => exact (Kd.R_reads' HO_11.out).2.1); (case side3 => repeat (first | exact (Kd.C_below HR121.out HB.out) | (with_reducible refine Kd.C_alloc ?_ _) | (with_reducible refine Kd.C_drewN ?_ _) | (with_reducible refine Kd.C_drew ?_))); (case side4 => exact HC121.out); rintro e w' ⟨rfl, ⟨nd, rfl⟩⟩; refine ⟨_, rfl, ?_⟩))
                                      go_ret
                                      exact ⟨by first | rfl | (simp [errW_none, errW_some] <;> rfl) | (simp [*, errW_none, errW_some] <;> rfl), by repeat (first | (with_reducible first | exact HB.out | apply below_alloc | apply pw_below_drewN | apply below_drew1) | exact HB.out)⟩
                                  · rw [if_neg c30] at H
                                    exact absurd H (by simp)
                              · rw [if_neg c26] at H
                                exact absurd H (by simp)
                            · rw [if_neg c25] at H
                              exact absurd H (by simp)
                          · rw [if_neg c24] at H
                            have c24b0 : decide (x13_3 < (l0.length : Int)) = false := decide_eq_false c24
                            clear c24
                            by_cases c39 : 0 ≤ x13_3
                            · rw [if_pos c39] at H
                              have c39b0 := eq_true c39
                              have c39b1 : decide (0 ≤ x13_3) = true := decide_eq_true c39
                              clear c39
                              by_cases c40 : x13_3 ≤ (l0.length : Int)
                              · rw [if_pos c40] at H
                                have c40b0 := eq_true c40
                                have c40b1 : decide (x13_3 ≤ (l0.length : Int)) = true := decide_eq_true c40
                                clear c40
                                replace H := Option.bind_eq_some_iff.mp H
                                obtain ⟨t124, A410, H⟩ := H
                                replace H : (if t124 = true then (some (t116 == x14_3)) else (some false)) = some r := H
                                have A41 := Aside0.mk A410
                                clear A410
                                by_cases c42 : t124 = true
                                · subst c42
                                  have H1 : (some (t116 == x14_3)) = some r := by rw [if_pos rfl] at H; exact H
                                  clear H
                                  have H := H1
                                  clear H1
                                  obtain rfl := Option.some.inj H
                                  obtain ⟨i043, hi043, _, hsz43, _⟩ := info_parts info9
                                  obtain ⟨hcut43, hA43, hC43⟩ := print_take_of (P := Try.prog) Value.string (⟨#[]⟩ : ByteArray) 38 9 .i64 Try.underlying38 hi043 hsz43 A0 c0 l0 x13_3 (of_decide_eq_true (by first | (with_reducible assumption) | assumption)) (of_decide_eq_true (by first | (with_reducible assumption) | assumption)) HC0.out
                                  have HR123 := Aside0.mk (Kd.C_of_reads (h1 := fun _ => rfl) (hA43 _ (Kd.reads_of_C HR0.out)))
                                  have HC123 := Aside0.mk hC43
                                  clear hA43 hC43 hi043 hsz43
                                  obtain ⟨Ao44, co44, eo44⟩ := Kd.R_slice HO_11.out
                                  subst eo44
                                  go_wp2_with (first | ((with_reducible refine gate_callee (f := 18) rfl ?_); refine goesL_ (some 80) rfl rfl Try.func18 (by kernel_rfl) rfl #[.slice Ao44 t115.length co44, .slice A0 (l0.take (x13_3 : Int).toNat).length c0] rfl (by (try simp only [List.map_toArray, List.map_cons, List.map_nil]); first | done | (rw [show (l0.take (x13_3 : Int).toNat).length = x13_3.toNat from (by rw [List.length_take]; have h_ : (x13_3 : Int) ≤ (l0.length : Int) := of_decide_eq_true (by first | (with_reducible assumption) | assumption); omega)] <;> rfl) | rfl | (simp only [List.length_drop, List.length_take]; rfl)) ?_; (with_reducible refine (dovecoteref03_Same.calls k3 _ _ t115 _ _ (l0.take (x13_3 : Int).toNat) true _ ?side1 ?side2 ?side3 ?side4 A41.out).mono ?_); (case side1 => repeat (first | exact (Kd.R_reads' HO_11.out).2.2 | (with_reducible refine Kd.C_alloc ?_ _) | (with_reducible refine Kd.C_drewN ?_ _) | (with_reducible refine Kd.C_drew ?_))); (case side2 => exact (Kd.R_reads' HO_11.out).2.1); (case side3 => repeat (first | exact (Kd.C_below HR123.out HB.out) | (with_reducible refine Kd.C_alloc ?_ _) | (with_reducible refine Kd.C_drewN ?_ _) | (with_reducible refine Kd.C_drew ?_))); (case side4 => exact HC123.out); rintro e w' ⟨rfl, ⟨nd, rfl⟩⟩; refine ⟨_, rfl, ?_⟩))
                                  go_ret
                                  exact ⟨by first | rfl | (simp [errW_none, errW_some] <;> rfl) | (simp [*, errW_none, errW_some] <;> rfl), by repeat (first | (with_reducible first | exact HB.out | apply below_alloc | apply pw_below_drewN | apply below_drew1) | exact HB.out)⟩
                                · replace c42 := Bool.eq_false_iff.mpr c42
                                  subst c42
                                  have H1 : (some false) = some r := by rw [if_neg (show ¬ (false = true) by decide)] at H; exact H
                                  clear H
                                  have H := H1
                                  clear H1
                                  obtain rfl := Option.some.inj H
                                  obtain ⟨i045, hi045, _, hsz45, _⟩ := info_parts info9
                                  obtain ⟨hcut45, hA45, hC45⟩ := print_take_of (P := Try.prog) Value.string (⟨#[]⟩ : ByteArray) 38 9 .i64 Try.underlying38 hi045 hsz45 A0 c0 l0 x13_3 (of_decide_eq_true (by first | (with_reducible assumption) | assumption)) (of_decide_eq_true (by first | (with_reducible assumption) | assumption)) HC0.out
                                  have HR123 := Aside0.mk (Kd.C_of_reads (h1 := fun _ => rfl) (hA45 _ (Kd.reads_of_C HR0.out)))
                                  have HC123 := Aside0.mk hC45
                                  clear hA45 hC45 hi045 hsz45
                                  obtain ⟨Ao46, co46, eo46⟩ := Kd.R_slice HO_11.out
                                  subst eo46
                                  go_wp2_with (first | ((with_reducible refine gate_callee (f := 18) rfl ?_); refine goesL_ (some 80) rfl rfl Try.func18 (by kernel_rfl) rfl #[.slice Ao46 t115.length co46, .slice A0 (l0.take (x13_3 : Int).toNat).length c0] rfl (by (try simp only [List.map_toArray, List.map_cons, List.map_nil]); first | done | (rw [show (l0.take (x13_3 : Int).toNat).length = x13_3.toNat from (by rw [List.length_take]; have h_ : (x13_3 : Int) ≤ (l0.length : Int) := of_decide_eq_true (by first | (with_reducible assumption) | assumption); omega)] <;> rfl) | rfl | (simp only [List.length_drop, List.length_take]; rfl)) ?_; (with_reducible refine (dovecoteref03_Same.calls k3 _ _ t115 _ _ (l0.take (x13_3 : Int).toNat) false _ ?side1 ?side2 ?side3 ?side4 A41.out).mono ?_); (case side1 => repeat (first | exact (Kd.R_reads' HO_11.out).2.2 | (with_reducible refine Kd.C_alloc ?_ _) | (with_reducible refine Kd.C_drewN ?_ _) | (with_reducible refine Kd.C_drew ?_))); (case side2 => exact (Kd.R_reads' HO_11.out).2.1); (case side3 => repeat (first | exact (Kd.C_below HR123.out HB.out) | (with_reducible refine Kd.C_alloc ?_ _) | (with_reducible refine Kd.C_drewN ?_ _) | (with_reducible refine Kd.C_drew ?_))); (case side4 => exact HC123.out); rintro e w' ⟨rfl, ⟨nd, rfl⟩⟩; refine ⟨_, rfl, ?_⟩))
                                  go_ret
                                  exact ⟨by first | rfl | (simp [errW_none, errW_some] <;> rfl) | (simp [*, errW_none, errW_some] <;> rfl), by repeat (first | (with_reducible first | exact HB.out | apply below_alloc | apply pw_below_drewN | apply below_drew1) | exact HB.out)⟩
                              · rw [if_neg c40] at H
                                exact absurd H (by simp)
                            · rw [if_neg c39] at H
                              exact absurd H (by simp)
                    · rw [if_neg c21] at H
                      exact absurd H (by simp)
                  · rw [if_neg c20] at H
                    exact absurd H (by simp)
  · replace c4 := Bool.eq_false_iff.mpr c4
    subst c4
    have H1 : (some false) = some r := by rw [if_neg (show ¬ (false = true) by decide)] at H; exact H
    clear H
    have H := H1
    clear H1
    obtain rfl := Option.some.inj H
    go_enter Try.func8, Try.ntmps8
    go_wp2_with (first | ((with_reducible refine gate_callee (f := 9) rfl ?_); refine goesL_ (some 15) rfl rfl Try.func9 (by kernel_rfl) rfl #[] rfl (by (try simp only [List.map_toArray, List.map_cons, List.map_nil]); first | done | rfl | (simp only [List.length_drop, List.length_take]; rfl)) ?_; (with_reducible refine (dovecotelaw03_awake.calls  false _ A3.out).mono ?_); rintro e w47 ⟨rfl, hb⟩; refine ⟨_, rfl, ?_⟩; have n0_ := Aside0.mk (below_step (by repeat (first | (with_reducible first | exact HB.out | apply below_alloc | apply pw_below_drewN | apply below_drew1) | exact HB.out)) hb); clear HB; have HB := n0_; clear n0_; (try clear hb); (try clear hb2); (try clear hk); (try clear hi)))
    go_ret
    exact ⟨by first | rfl | (simp [errW_none, errW_some] <;> rfl) | (simp [*, errW_none, errW_some] <;> rfl), by repeat (first | (with_reducible first | exact HB.out | apply below_alloc | apply pw_below_drewN | apply below_drew1) | exact HB.out)⟩

end Go.Proofs.Ytapgmedfedcliaa.PLc

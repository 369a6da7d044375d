/- Contracts of Go functions and what each computes, as plain Lean functions: written by a program of this session over the kit's own print. Conditions: those that each theorem names. -/
import Derived.Test.YtbodaohbmekekaaPPlaceSplitsx0
namespace Go.Proofs.Ytbodaohbmekekaa.PPlaceSplits
open Go.RowKit Go.Proofs.YtbodaohbmekekaaW.PrintWords Go.Proofs.YtbodaohbmekekaaW.PrintLast Go.Proofs.YtbodaohbmekekaaW.PrintMore
attribute [local go_sem] max2_int min2_int max_two min_two max_three min_three max_four min_four   -- for this text's walks alone
set_option linter.unusedVariables false
set_option linter.unusedSimpArgs false

/-! ### place_Walk: function 9 -/


/-! ### place_Shard: function 11 -/
def place_Shard.f (a0 : ByteArray) (a1 : Int) : Option (Int × Int) := some (sv a0 a1, se a0 a1)
theorem place_Shard.calls (a0 : ByteArray) (a1 : Int) (r1 : Int) (r2 : Int) (w : World) (h : place_Shard.f a0 a1 = some (r1, r2)) :
    Calls Try.prog 11 #[.string a0, .int .i64 a1] w fun e w' => e = .returned (.tuple #[.int .i64 r1, .int .i64 r2]) ∧ Drawn0 w w' := by
  simp only [place_Shard.f, Option.some.injEq, Prod.mk.injEq] at h
  obtain ⟨rfl, rfl⟩ := h
  exact shardAny a0 a1 w


/-! ### dovecotelaw13_awake: function 8 -/
def dovecotelaw13_awake.f : Option Bool := some true
theorem dovecotelaw13_awake.calls (r : Bool) (w : World) (h : dovecotelaw13_awake.f = some r) : Calls Try.prog 8 #[] w fun e w' => e = .returned (.bool r) ∧ Drawn0 w w' := by
  simp only [dovecotelaw13_awake.f, Option.some.injEq] at h
  subst h
  exact awake_calls w


/-! ### place_Split: function 15 -/
mutual
def place_Split.j0 : Nat → List (S44) → Int → Bool → Option ((List (List (S44))))
  | 0, _, _, _ => none
  | k + 1, x0, x1, x15 => if x15 = true then (some ([] : List (List (S44)))) else (if 0 ≤ x1 then (if (x1 : Int).toNat ≤ 11728124029610 then (place_Split.l0 k x1 (List.replicate (x1 : Int).toNat []) x0 (x0.length : Int) 0) else (none)) else (none))
def place_Split.l0 : Nat → Int → List (List (S44)) → List (S44) → Int → Int → Option ((List (List (S44))))
  | 0, _, _, _, _, _ => none
  | k + 1, x1, x5, x18, x19, x20 => if x20 < x19 then (if 0 ≤ x20 then (if x20 < (x18.length : Int) then ((place_Shard.f ((rd_T44 x18 x20).f0) x1).bind fun bt106 => (if bt106.2 = 0 then (if 0 ≤ bt106.1 then (if bt106.1 < (x5.length : Int) then (if (rd_L3 x5 bt106.1).length < 3518437208883 then (place_Split.l0 k x1 (x5.set (bt106.1 : Int).toNat ((rd_L3 x5 bt106.1) ++ [(⟨(rd_T44 x18 x20).f0, (rd_T44 x18 x20).f1, (rd_T44 x18 x20).f2⟩ : S44)])) x18 x19 (wrap64 (x20 + 1))) else (none)) else (none)) else (none)) else (place_Split.l0 k x1 x5 x18 x19 (wrap64 (x20 + 1))))) else (none)) else (none)) else (some x5)
end
def place_Split.f (k : Nat) (l0 : List (S44)) (a1 : Int) : Option ((List (List (S44)))) := if a1 < 1 then (place_Split.j0 k l0 a1 true) else (place_Split.j0 k l0 a1 (decide (a1 > 8)))
theorem place_Split.mono_l : ∀ k, (∀ y0 y1 y2, LeO (place_Split.j0 k y0 y1 y2) (place_Split.j0 (k + 1) y0 y1 y2)) ∧ (∀ y0 y1 y2 y3 y4, LeO (place_Split.l0 k y0 y1 y2 y3 y4) (place_Split.l0 (k + 1) y0 y1 y2 y3 y4))
  | 0 => ⟨fun _ _ _ r h => by simp [place_Split.j0] at h, fun _ _ _ _ _ r h => by simp [place_Split.l0] at h⟩
  | k + 1 => by
    obtain ⟨ih0, ih1⟩ := place_Split.mono_l k
    refine ⟨?_, ?_⟩
    · intro y0 y1 y2
      unfold place_Split.j0
      repeat' first
      | (with_reducible exact ih0 _ _ _)
      | (with_reducible exact ih1 _ _ _ _ _)
      | (with_reducible exact LeO.refl _)
      | (with_reducible exact LeO.none _)
      | (with_reducible refine LeO.ite ?_ ?_)
      | (with_reducible refine LeO.bind ?_ (fun _ => ?_))
      | exact ih0 _ _ _
      | exact ih1 _ _ _ _ _
      | exact LeO.none _
      | refine LeO.ite ?_ ?_
      | refine LeO.bind ?_ (fun _ => ?_)
    · intro y0 y1 y2 y3 y4
      unfold place_Split.l0
      repeat' first
      | (with_reducible exact ih0 _ _ _)
      | (with_reducible exact ih1 _ _ _ _ _)
      | (with_reducible exact LeO.refl _)
      | (with_reducible exact LeO.none _)
      | (with_reducible refine LeO.ite ?_ ?_)
      | (with_reducible refine LeO.bind ?_ (fun _ => ?_))
      | exact ih0 _ _ _
      | exact ih1 _ _ _ _ _
      | exact LeO.none _
      | refine LeO.ite ?_ ?_
      | refine LeO.bind ?_ (fun _ => ?_)
theorem place_Split.mono : ∀ a0 a1 k, LeO (place_Split.f k a0 a1) (place_Split.f (k + 1) a0 a1) := by
  intro a0 a1 k
  obtain ⟨ih0, ih1⟩ := place_Split.mono_l k
  unfold place_Split.f
  repeat' first
      | (with_reducible exact ih0 _ _ _)
      | (with_reducible exact ih1 _ _ _ _ _)
      | (with_reducible exact LeO.refl _)
      | (with_reducible exact LeO.none _)
      | (with_reducible refine LeO.ite ?_ ?_)
      | (with_reducible refine LeO.bind ?_ (fun _ => ?_))
      | exact ih0 _ _ _
      | exact ih1 _ _ _ _ _
      | exact LeO.none _
      | refine LeO.ite ?_ ?_
      | refine LeO.bind ?_ (fun _ => ?_)
def place_Split.T9 : Bool × List (List Nat × List Nat) := (true, [([], []), ([], []), ([], []), ([], []), ([2, 3], [2, 3]), ([4], [4]), ([], []), ([6], [6]), ([5, 7], [5, 7]), ([0, 1, 0, 1, 2, 3, 4, 5, 6, 7, 8], [0, 1]), ([9, 8, 8, 0, 1, 2, 3, 4, 5, 6, 7, 8], [8, 9])])
def place_Split.B9 : List Nat := [0, 0, 0, 0, 12, 28, 0, 64, 252, 511, 1023]
theorem place_Split.tab9 : rtab .any (opsOf Try.f15 9) = place_Split.T9 := by kernel_rfl
theorem place_Split.bits9 : waitsOk place_Split.T9.2 place_Split.B9 = true := by kernel_rfl
set_option maxHeartbeats 8000000 in
set_option maxRecDepth 100000 in
theorem place_Split.calls (k : Nat) (A0 : Option Addr) (c0 : Nat) (l0 : List (S44)) (a1 : Int) (r : List (List (S44))) (w : World) (hr0 : Kd.C k44 w A0 l0.length l0) (hc0 : l0.length ≤ c0) (h : place_Split.f k l0 a1 = some r) :
    Calls Try.prog 15 #[.slice A0 l0.length c0, .int .i64 a1] w fun e w' => ∃ v0_ : Value, e = .returned (v0_) ∧ Kd.S (Kd.slice 44 k44) 40 w' w.heap.size (fun _ => True) v0_ r ∧ Below w.heap.size w w' := by
  have hu44 := Try.underlying44
  have HR0 := Aside0.mk hr0
  have HC0 := Aside0.mk hc0
  clear hr0 hc0
  have HB := Aside0.mk (Below.refl w.heap.size w)
  have H : (if a1 < 1 then (place_Split.j0 k l0 a1 true) else (place_Split.j0 k l0 a1 (decide (a1 > 8)))) = some r := h
  clear h
  have HC3 := Aside0.mk H
  clear H
  go_enter Try.func15, Try.ntmps15
  go_upto_region 1 with (fail)
  go_cut [15] (fun v15 wc => ∃ (kq : Nat) (x15_2 : Bool), v15 = .bool x15_2 ∧ Aside0 (place_Split.j0 kq l0 a1 x15_2 = some r) ∧ Aside0 (kq ≤ k) ∧ Aside0 (Below w.heap.size w wc))
  case first =>
    have H := HC3.out
    clear HC3
    by_cases c4 : a1 < 1
    · rw [if_pos c4] at H
      have c4b0 : decide (a1 < 1) = true := decide_eq_true c4
      clear c4
      (first | rw [c4b0] | (simp only [i64_w, i32_w]; rw [c4b0]) | skip)
      have H' := Aside0.mk H
      clear H
      go_wp2
      go_meet
      case rel => exact ⟨_, (true), (by first | rfl | (simp; done) | (simp [*]; done)), H', ⟨by first | omega | exact Nat.le_refl _⟩, ⟨by repeat (first | (with_reducible first | exact HB.out | apply below_alloc | apply pw_below_drewN | apply below_drew1) | exact HB.out)⟩⟩
    · rw [if_neg c4] at H
      have c4b0 : decide (a1 < 1) = false := decide_eq_false c4
      clear c4
      (first | rw [c4b0] | (simp only [i64_w, i32_w]; rw [c4b0]) | skip)
      have H' := Aside0.mk H
      clear H
      go_wp2
      go_meet
      case rel => exact ⟨_, (decide (a1 > 8)), (by first | rfl | (simp; done) | (simp [*]; done)), H', ⟨by first | omega | exact Nat.le_refl _⟩, ⟨by repeat (first | (with_reducible first | exact HB.out | apply below_alloc | apply pw_below_drewN | apply below_drew1) | exact HB.out)⟩⟩
  case rest =>
    clear HC3
    try clear c1
    try clear p2
    try clear c4
    try clear c4b0
    obtain ⟨kq, x15_2, rfl, HA, HJ2, HB⟩ := hcut
    cases kq with
    | zero => exact absurd HA.out (by simp [place_Split.j0])
    | succ kj2 =>
      have H := HA.out
      clear HA
      simp only [place_Split.j0] at H
      by_cases c5 : x15_2 = true
      · subst c5
        have H1 : (some ([] : List (List (S44)))) = some r := by rw [if_pos rfl] at H; exact H
        clear H
        have H := H1
        clear H1
        obtain rfl := Option.some.inj H
        go_wp2
        go_ret
        exact ⟨_, by first | rfl | (simp [errW_none, errW_some] <;> rfl) | (simp [*, errW_none, errW_some] <;> rfl), by first | exact Kd.S_nil _ _ _ _ _ | exact Kd.N_nil _ _ _ _ _ | exact Kd.V_nil _ _ _ _ _ | exact Kd.Q_nil _ _ _ _ _ | exact Kd.R_nil _ _ _ _ _, by repeat (first | (with_reducible first | exact HB.out | apply below_alloc | apply pw_below_drewN | apply below_drew1) | exact HB.out)⟩
      · replace c5 := Bool.eq_false_iff.mpr c5
        subst c5
        have H1 : (if 0 ≤ a1 then (if (a1 : Int).toNat ≤ 11728124029610 then (place_Split.l0 kj2 a1 (List.replicate (a1 : Int).toNat []) l0 (l0.length : Int) 0) else (none)) else (none)) = some r := by rw [if_neg (show ¬ (false = true) by decide)] at H; exact H
        clear H
        have H := H1
        clear H1
        by_cases c6 : 0 ≤ a1
        · rw [if_pos c6] at H
          have c6b0 := eq_true c6
          have c6b1 : decide (0 ≤ a1) = true := decide_eq_true c6
          clear c6
          by_cases c7 : (a1 : Int).toNat ≤ 11728124029610
          · rw [if_pos c7] at H
            have c7b0 := eq_true c7
            have c7b1 : decide ((a1 : Int).toNat ≤ 11728124029610) = true := decide_eq_true c7
            clear c7
            obtain ⟨y101, hy101⟩ : ∃ y_ : List (List (S44)), y_ = (List.replicate (a1 : Int).toNat []) := ⟨_, rfl⟩
            replace H : (place_Split.l0 kj2 a1 y101 l0 (l0.length : Int) 0) = some r := by first | (rw [hy101]; with_reducible exact H) | (have H2_ := (Option.bind_some _ _).symm.trans H; rw [hy101]; with_reducible exact H2_) | (have H2_ := (Option.bind_some _ _).symm.trans H; with_reducible exact H2_) | with_reducible exact H | (rw [hy101]; exact H) | exact H
            have Ny101 := Aside0.mk hy101
            clear hy101
            have H' := Aside0.mk H
            clear H
            go_wp2_with (first | ((with_reducible refine gate_dst (N := 17) rfl ?_); refine Kd.S_make (Kd.slice 44 k44) _ 40 rfl (N := 17) rfl 41 _ _ rfl a1 rfl rfl Try.underlying41 (.slice none 0 0) 24 info40 rfl (by decide) (by omega) [] (ok := fun _ => True) (okp := fun _ => True) ⟨_, rfl, Kd.R_nil _ _ _ _ _⟩ (fun _ hk => hk) trivial (of_decide_eq_true (by first | (with_reducible assumption) | assumption)) (Nat.le_trans (Nat.mul_le_mul_right _ (of_decide_eq_true (by first | (with_reducible assumption) | assumption) : a1.toNat ≤ 11728124029610)) (by omega)) (Below.refl _ _) (Nat.le_refl _) ?_; intro v102 w8 ho9 hb hg_ hnew_; clear hg_ hnew_; (first | rw [← Ny101.out] at ho9 | (simp only [Int.reduceToNat] at ho9; rw [← Ny101.out] at ho9)); have n0_ := Aside0.mk (Kd.S_lower ho9 (below_size (by repeat (first | (with_reducible first | exact HB.out | apply below_alloc | apply pw_below_drewN | apply below_drew1) | exact HB.out)))); have n1_ := Aside0.mk (below_step (by repeat (first | (with_reducible first | exact HB.out | apply below_alloc | apply pw_below_drewN | apply below_drew1) | exact HB.out)) hb); clear HB; have HO103 := n0_; have HB := n1_; clear n0_ n1_; clear hb ho9))
            go_loopg [20] kj2 (fun kq v20 w' => ∃ (x5_2 : List (List (S44))) (x20_2 : Int), v20 = .int .i64 x20_2 ∧ Aside0 (place_Split.l0 kq a1 x5_2 l0 (l0.length : Int) x20_2 = some r) ∧ Aside0 (kq ≤ kj2) ∧ Aside0 (Kd.S (Kd.slice 44 k44) 40 w' w.heap.size (fun _ => True) v102 x5_2) ∧ Aside0 (Below w.heap.size w w'))
            case atStart => exact ⟨(y101), (0), (by first | rfl | (simp; done) | (simp [*]; done)), H', ⟨Nat.le_refl _⟩, ⟨by (with_reducible repeat (first | apply Kd.S_alloc | apply Kd.S_drewN | apply Kd.S_drew)); exact HO103.out⟩, ⟨by repeat (first | (with_reducible first | exact HB.out | apply below_alloc | apply pw_below_drewN | apply below_drew1) | exact HB.out)⟩⟩
            case round =>
              clear H'
              try clear c1
              try clear p2
              try clear c4
              try clear c4b0
              try clear c5
              try clear c6
              try clear c6b0
              try clear c6b1
              try clear c7
              try clear c7b0
              try clear c7b1
              try clear p2
              obtain ⟨x5_2, x20_2, rfl, HA, HK2, HO_5, HB⟩ := hrel
              cases gk with
              | zero => exact absurd HA.out (by simp [place_Split.l0])
              | succ k2 =>
                have H := HA.out
                clear HA
                simp only [place_Split.l0] at H
                by_cases c10 : x20_2 < (l0.length : Int)
                · rw [if_pos c10] at H
                  have c10b0 : decide (x20_2 < (l0.length : Int)) = true := decide_eq_true c10
                  clear c10
                  by_cases c11 : 0 ≤ x20_2
                  · rw [if_pos c11] at H
                    have c11b0 : decide (0 ≤ x20_2) = true := decide_eq_true c11
                    clear c11
                    by_cases c12 : x20_2 < (l0.length : Int)
                    · rw [if_pos c12] at H
                      have c12b0 : decide (x20_2 < (l0.length : Int)) = true := decide_eq_true c12
                      clear c12
                      replace H := Option.bind_eq_some_iff.mp H
                      obtain ⟨⟨t106, t107⟩, A130, H⟩ := H
                      replace H : (if t107 = 0 then (if 0 ≤ t106 then (if t106 < (x5_2.length : Int) then (if (rd_L3 x5_2 t106).length < 3518437208883 then (place_Split.l0 k2 a1 (x5_2.set (t106 : Int).toNat ((rd_L3 x5_2 t106) ++ [(⟨(rd_T44 l0 x20_2).f0, (rd_T44 l0 x20_2).f1, (rd_T44 l0 x20_2).f2⟩ : S44)])) l0 (l0.length : Int) (wrap64 (x20_2 + 1))) else (none)) else (none)) else (none)) else (place_Split.l0 k2 a1 x5_2 l0 (l0.length : Int) (wrap64 (x20_2 + 1)))) = some r := H
                      have A13 := Aside0.mk A130
                      clear A130
                      by_cases c14 : t107 = 0
                      · rw [if_pos c14] at H
                        have c14b0 : (t107 == 0) = true := beq_iff_eq.mpr c14
                        have c14b1 : (t107 != 0) = false := bne_eq_false_iff_eq.mpr c14
                        clear c14
                        by_cases c15 : 0 ≤ t106
                        · rw [if_pos c15] at H
                          have c15b0 : decide (0 ≤ t106) = true := decide_eq_true c15
                          clear c15
                          by_cases c16 : t106 < (x5_2.length : Int)
                          · rw [if_pos c16] at H
                            have c16b0 : decide (t106 < (x5_2.length : Int)) = true := decide_eq_true c16
                            clear c16
                            by_cases c17 : (rd_L3 x5_2 t106).length < 3518437208883
                            · rw [if_pos c17] at H
                              have LMc17 := Aside0.mk c17
                              clear c17
                              obtain ⟨y109, hy109⟩ : ∃ y_ : List (S44), y_ = ((rd_L3 x5_2 t106) ++ [(⟨(rd_T44 l0 x20_2).f0, (rd_T44 l0 x20_2).f1, (rd_T44 l0 x20_2).f2⟩ : S44)]) := ⟨_, rfl⟩
                              replace H : (place_Split.l0 k2 a1 (x5_2.set (t106 : Int).toNat y109) l0 (l0.length : Int) (wrap64 (x20_2 + 1))) = some r := by first | (rw [hy109]; with_reducible exact H) | (have H2_ := (Option.bind_some _ _).symm.trans H; rw [hy109]; with_reducible exact H2_) | (have H2_ := (Option.bind_some _ _).symm.trans H; with_reducible exact H2_) | with_reducible exact H | (rw [hy109]; exact H) | exact H
                              have Ny109 := Aside0.mk hy109
                              clear hy109
                              obtain ⟨y112, hy112⟩ : ∃ y_ : List (List (S44)), y_ = (x5_2.set (t106 : Int).toNat y109) := ⟨_, rfl⟩
                              replace H : (place_Split.l0 k2 a1 y112 l0 (l0.length : Int) (wrap64 (x20_2 + 1))) = some r := by first | (rw [hy112]; with_reducible exact H) | (have H2_ := (Option.bind_some _ _).symm.trans H; rw [hy112]; with_reducible exact H2_) | (have H2_ := (Option.bind_some _ _).symm.trans H; with_reducible exact H2_) | with_reducible exact H | (rw [hy112]; exact H) | exact H
                              have Ny112 := Aside0.mk hy112
                              clear hy112
                              have H' := Aside0.mk H
                              clear H
                              have p104 : 0 ≤ (x20_2 : Int) := of_decide_eq_true (by first | (with_reducible assumption) | assumption)
                              have q104 : x20_2 < (l0.length : Int) := of_decide_eq_true (by first | (with_reducible assumption) | assumption)
                              obtain ⟨ad104, e104, hx104_0, hx104_1, hx104_2⟩ := at_T44 HR0.out x20_2 p104 q104
                              cases e104
                              replace hx104_0 := (HB.out.cell (World.block_lt_of_cell? w _ hx104_0)).trans hx104_0
                              replace hx104_1 := (HB.out.cell (World.block_lt_of_cell? w _ hx104_1)).trans hx104_1
                              replace hx104_2 := (HB.out.cell (World.block_lt_of_cell? w _ hx104_2)).trans hx104_2
                              replace p104 := eq_true p104
                              replace q104 := eq_true q104
                              try go_wp2_with (first | ((with_reducible refine gate_dst (N := 7) rfl ?_); refine box_event ?hg (N := 7) ?hd (cs := #[.string (⟨#[]⟩ : ByteArray), .string (⟨#[]⟩ : ByteArray), .bool false]) (t := 44) ?hr ?_; (case hd => rfl); (case hg => rfl); (case hr => first | (go_simp; done) | (go_simp; rfl)); intro gb105 hg w19 hbox hb; have n0_ := Aside0.mk (Kd.S_below (Kd.S_elderB (by (with_reducible repeat (first | apply Kd.S_alloc | apply Kd.S_drewN | apply Kd.S_drew)); exact HO_5.out) gb105 (Nat.le_of_eq hg.symm)) hb); have n1_ := Aside0.mk (below_step (by repeat (first | (with_reducible first | exact HB.out | apply below_alloc | apply pw_below_drewN | apply below_drew1) | exact HB.out)) hb); have n2_ := Aside0.mk (hbox); have n3_ := Aside0.mk ((by rw [hg]; exact (below_size (by repeat (first | (with_reducible first | exact HB.out | apply below_alloc | apply pw_below_drewN | apply below_drew1) | exact HB.out))) : w.heap.size ≤ gb105)); have n4_ := Aside0.mk ((by rw [hg]; exact (below_size (by repeat (first | (with_reducible first | exact HB.out | apply below_alloc | apply pw_below_drewN | apply below_drew1) | exact HB.out))) : w.heap.size ≤ gb105)); clear HO_5; clear HB; have HO_5 := n0_; have HB := n1_; have BK105 := n2_; have GW105 := n3_; have GE105 := n4_; clear n0_ n1_ n2_ n3_ n4_; clear hb hbox hg; have hcz20_0 : w19.cell? ⟨gb105, 0, none⟩ = some (.string (⟨#[]⟩ : ByteArray)) := (blk_cell BK105.out 0).trans rfl; have hcz20_1 : w19.cell? ⟨gb105, 1, none⟩ = some (.string (⟨#[]⟩ : ByteArray)) := (blk_cell BK105.out 1).trans rfl; have hcz20_2 : w19.cell? ⟨gb105, 2, none⟩ = some (.bool false) := (blk_cell BK105.out 2).trans rfl; have hfz20_0 := blk_frozen BK105.out 0; have hfz20_1 := blk_frozen BK105.out 1; have hfz20_2 := blk_frozen BK105.out 2) | ((with_reducible refine gate_callee (f := 11) rfl ?_); refine goesL_ (some 28) rfl rfl Try.func11 (by kernel_rfl) rfl #[.string ((rd_T44 l0 x20_2).f0), .int .i64 a1] rfl (by (try simp only [List.map_toArray, List.map_cons, List.map_nil]); first | done | rfl | (simp only [List.length_drop, List.length_take]; rfl)) ?_; (with_reducible refine (place_Shard.calls ((rd_T44 l0 x20_2).f0) a1 t106 t107 _ A13.out).mono ?_); rintro e w' ⟨rfl, ⟨nd, rfl⟩⟩; refine ⟨_, rfl, ?_⟩))
                              have n0_ : Aside0 (Kd.S (Kd.slice 44 k44) 40 (((w19.setCell ⟨gb105, 0, none⟩ (.string ((rd_T44 l0 x20_2).f0))).setCell ⟨gb105, 1, none⟩ (.string ((rd_T44 l0 x20_2).f1))).setCell ⟨gb105, 2, none⟩ (.bool ((rd_T44 l0 x20_2).f2))) w.heap.size (fun k_ => k_ ≠ gb105) v102 x5_2) := ⟨by (with_reducible repeat (first | apply Kd.S_alloc | apply Kd.S_drewN | apply Kd.S_drew)); exact Kd.S_mono (Kd.S_far (p := ⟨gb105, 2, none⟩) (Kd.S_far (p := ⟨gb105, 1, none⟩) (Kd.S_far (p := ⟨gb105, 0, none⟩) (Kd.S_mono HO_5.out (fun k_ hk => (⟨hk, hk.2⟩ : _ ∧ k_ ≠ gb105))) (fun _ hk => hk.2) (.string ((rd_T44 l0 x20_2).f0))) (fun _ hk => hk.2) (.string ((rd_T44 l0 x20_2).f1))) (fun _ hk => hk.2) (.bool ((rd_T44 l0 x20_2).f2))) (fun _ hk => hk.1.2)⟩
                              have n1_ : Aside0 ((((w19.setCell ⟨gb105, 0, none⟩ (.string ((rd_T44 l0 x20_2).f0))).setCell ⟨gb105, 1, none⟩ (.string ((rd_T44 l0 x20_2).f1))).setCell ⟨gb105, 2, none⟩ (.bool ((rd_T44 l0 x20_2).f2))).heap[gb105]? = some (.cells #[.string ((rd_T44 l0 x20_2).f0), .string ((rd_T44 l0 x20_2).f1), .bool ((rd_T44 l0 x20_2).f2)] 44 (0, 0))) := ⟨by (with_reducible repeat (first | refine blk_drewN ?_ _ | refine blk_drew ?_ | refine blk_alloc ?_ _)); refine blk_put (cs := #[.string ((rd_T44 l0 x20_2).f0), .string ((rd_T44 l0 x20_2).f1), .bool false]) ?_ 2 _ rfl; (with_reducible repeat (first | refine blk_drewN ?_ _ | refine blk_drew ?_ | refine blk_alloc ?_ _)); refine blk_put (cs := #[.string ((rd_T44 l0 x20_2).f0), .string (⟨#[]⟩ : ByteArray), .bool false]) ?_ 1 _ rfl; (with_reducible repeat (first | refine blk_drewN ?_ _ | refine blk_drew ?_ | refine blk_alloc ?_ _)); refine blk_put (cs := #[.string (⟨#[]⟩ : ByteArray), .string (⟨#[]⟩ : ByteArray), .bool false]) ?_ 0 _ rfl; (with_reducible repeat (first | refine blk_drewN ?_ _ | refine blk_drew ?_ | refine blk_alloc ?_ _)); exact BK105.out⟩
                              have n2_ : Aside0 (Below w.heap.size w (((w19.setCell ⟨gb105, 0, none⟩ (.string ((rd_T44 l0 x20_2).f0))).setCell ⟨gb105, 1, none⟩ (.string ((rd_T44 l0 x20_2).f1))).setCell ⟨gb105, 2, none⟩ (.bool ((rd_T44 l0 x20_2).f2)))) := ⟨by repeat (first | (with_reducible first | exact HB.out | apply below_alloc | apply pw_below_drewN | apply below_drew1 | refine below_set ?_ GE105.out) | exact HB.out)⟩
                              (try clear HO_5)
                              (try clear BK105)
                              (try clear HB)
                              generalize (((w19.setCell ⟨gb105, 0, none⟩ (.string ((rd_T44 l0 x20_2).f0))).setCell ⟨gb105, 1, none⟩ (.string ((rd_T44 l0 x20_2).f1))).setCell ⟨gb105, 2, none⟩ (.bool ((rd_T44 l0 x20_2).f2))) = w21 at n0_ n1_ n2_ ⊢
                              have HO_5 := n0_
                              have BK105 := n1_
                              have HB := n2_
                              clear n0_ n1_ n2_
                              (try (rw [drewN_self w21]; generalize hq_ : World.drewN w21 _ = w21; have n0_ : Aside0 (Kd.S (Kd.slice 44 k44) 40 w21 w.heap.size (fun k_ => k_ ≠ gb105) v102 x5_2) := ⟨by rw [← hq_]; exact (by (with_reducible repeat (first | apply Kd.S_alloc | apply Kd.S_drewN | apply Kd.S_drew)); exact HO_5.out)⟩; have n1_ : Aside0 (w21.heap[gb105]? = some (.cells #[.string ((rd_T44 l0 x20_2).f0), .string ((rd_T44 l0 x20_2).f1), .bool ((rd_T44 l0 x20_2).f2)] 44 (0, 0))) := ⟨by rw [← hq_]; exact (by (with_reducible repeat (first | refine blk_drewN ?_ _ | refine blk_drew ?_ | refine blk_alloc ?_ _)); exact BK105.out)⟩; have n2_ : Aside0 (Below w.heap.size w w21) := ⟨by rw [← hq_]; exact (by repeat (first | (with_reducible first | exact HB.out | apply below_alloc | apply pw_below_drewN | apply below_drew1 | refine below_set ?_ GE105.out) | exact HB.out))⟩; clear HO_5 BK105 HB hq_; have HO_5 := n0_; have BK105 := n1_; have HB := n2_; clear n0_ n1_ n2_))
                              have n0_ := Aside0.mk (Kd.S_drew HO_5.out)
                              have n1_ := Aside0.mk (blk_drew BK105.out)
                              have n2_ := Aside0.mk (below_drew1 HB.out)
                              clear HO_5
                              clear BK105
                              clear HB
                              have HO_5 := n0_
                              have BK105 := n1_
                              have HB := n2_
                              clear n0_ n1_ n2_
                              obtain ⟨Ao23, co23, eo23⟩ := Kd.S_slice HO_5.out
                              (first | subst eo23 | (injection eo23 with f1_ f2_ f3_; have f4_ := f1_.symm; have f5_ := f3_.symm; clear f1_ f2_ f3_; subst f4_; subst f5_))
                              have p108 : 0 ≤ (t106 : Int) := of_decide_eq_true (by first | (with_reducible assumption) | assumption)
                              have q108 : t106 < (x5_2.length : Int) := of_decide_eq_true (by first | (with_reducible assumption) | assumption)
                              obtain ⟨ad108, A108_0, c108_0, e108, hx108_0, hl108_0, hi108_0⟩ := at_L3 (Kd.S_reads' HO_5.out).2.2 t106 p108 q108
                              cases e108
                              obtain ⟨ce108, hce108, hMe108, hcc108⟩ := Kd.S_get HO_5.out [] t106 p108 (by first | exact q108 | exact of_decide_eq_true (by first | (with_reducible assumption) | assumption) | (have e_ := (Kd.S_reads' HO_5.out).1; omega))
                              obtain ⟨ve108_0, rfl, ge108_0⟩ := hMe108
                              have hv108_0 := hcc108 0 _ rfl
                              rw [Nat.add_zero, show ((Kd.slice 44 k44)).sz = 1 from rfl, Nat.mul_one] at hv108_0
                              replace hv108_0 := Option.some.inj (hv108_0.symm.trans hx108_0)
                              rw [hv108_0] at ge108_0
                              have HL108_0 := Aside0.mk (show Kd.R k44 44 _ _ _ _ (rd_L3 x5_2 t106) from ge108_0)
                              clear hv108_0 ge108_0
                              have HX108_0 := Aside0.mk hx108_0
                              clear hcc108 hce108
                              have HR108_0 := Aside0.mk hi108_0
                              have HC108_0 := Aside0.mk hl108_0
                              clear hi108_0 hl108_0
                              replace p108 := eq_true p108
                              replace q108 := eq_true q108
                              obtain ⟨go24, co24, eo24, gb24, gl24, cl24, HG24⟩ := Kd.S_form HO_5.out (by have h_ : (t106 : Int) < ((x5_2.length : Int) : Int) := of_decide_eq_true (by first | (with_reducible assumption) | assumption); have h2_ : 0 ≤ (t106 : Int) := (of_decide_eq_true (by first | (with_reducible assumption) | assumption)); omega)
                              (first | cases eo24 | (injection eo24 with ea_ en_ ec_; (first | subst ea_ | (injection ea_ with ea_; subst ea_)); subst ec_; clear en_))
                              have GB24 := Aside0.mk gb24
                              have GG24 := Aside0.mk HG24
                              clear gb24 gl24 HG24
                              (first | simp only [add_plain] at hx108_0 | skip)
                              obtain ⟨oki24, ce24, hcl24, hM24, hcc24, _, _, hH24⟩ := Kd.S_elem HO_5.out [] (t106 : Int) (of_decide_eq_true (by first | (with_reducible assumption) | assumption)) (by have h_ : (t106 : Int) < ((x5_2.length : Int) : Int) := of_decide_eq_true (by first | (with_reducible assumption) | assumption); first | exact h_ | (have e_ := (Kd.S_reads' HO_5.out).1; omega) | simpa using h_)
                              obtain ⟨ve24_0, rfl, ge24_0⟩ := hM24
                              have hv24 := hcc24 0 _ rfl
                              have hX24 := HX108_0.out
                              (try simp only [add_plain] at hX24)
                              (try simp only [Nat.add_zero] at hv24)
                              (try rw [show ((Kd.slice 44 k44)).sz = 1 from rfl, Nat.mul_one] at hv24)
                              replace hv24 := Option.some.inj (hv24.symm.trans hX24)
                              subst hv24
                              clear hX24 hcc24 hcl24
                              have UU24 := Aside0.mk (show Kd.R k44 44 _ w.heap.size oki24 (.slice A108_0 (rd_L3 x5_2 t106).length c108_0) (rd_L3 x5_2 t106) from ge24_0)
                              have HH24 := Aside0.mk hH24
                              have HN24 := Aside0.mk (Kd.S_reads' HO_5.out).1
                              clear hH24 ge24_0
                              refine start_ (n := 11) (S := fun w' => w'.cell? ⟨gb105, 0, none⟩ = some (.string ((rd_T44 l0 x20_2).f0)) ∧ w'.cell? ⟨gb105, 1, none⟩ = some (.string ((rd_T44 l0 x20_2).f1)) ∧ w'.cell? ⟨gb105, 2, none⟩ = some (.bool ((rd_T44 l0 x20_2).f2)) ∧ w'.cell? ⟨go24, (t106).toNat, none⟩ = some (.slice A108_0 (rd_L3 x5_2 t106).length c108_0)) (ds := [10]) #[false, false, false, false, false, false, false, false, false, false, false] (by kernel_rfl) rfl rfl ⟨(blk_cell BK105.out 0).trans rfl, (blk_cell BK105.out 1).trans rfl, (blk_cell BK105.out 2).trans rfl, hx108_0⟩ (fun hHeld => ?_); refine with_tabW place_Split.tab9 place_Split.bits9 (fun HT_ HW_ => ?_)
                              generalize w21.drew = w22 at HO_5 BK105 HB GG24 HH24 HL108_0 HR108_0 HX108_0 UU24 hx108_0 hHeld ⊢
                              refine pure_ (i := 0) (N := some 33) (v := ?_) (a' := ?_) #[true, false, false, false, false, false, false, false, false, false, false] rfl rfl (any_of HT_.out (by kernel_rfl)) (fun _ _ _ h => h) (Or.inl ⟨by rfl, ?_⟩) ?_ ?_
                              rotate_left
                              · intro w'
                                go_simp
                                with_reducible rfl
                              rotate_left
                              · simp only [Act.put, List.setIfInBounds_toArray, List.set_cons_zero, List.set_cons_succ, i64_w, i32_w]
                                rfl
                              refine pure_ (i := 1) (N := some 34) (v := ?_) (a' := ?_) #[true, true, false, false, false, false, false, false, false, false, false] rfl rfl (any_of HT_.out (by kernel_rfl)) (fun _ _ _ h => h) (Or.inl ⟨by rfl, ?_⟩) ?_ ?_
                              rotate_left
                              · intro w'
                                go_simp
                                with_reducible rfl
                              rotate_left
                              · simp only [Act.put, List.setIfInBounds_toArray, List.set_cons_zero, List.set_cons_succ, i64_w, i32_w]
                                rfl
                              refine pure_ (i := 2) (N := some 35) (v := ?_) (a' := ?_) #[true, true, true, false, false, false, false, false, false, false, false] rfl rfl (any_of HT_.out (by kernel_rfl)) (fun _ _ _ h => h) (Or.inl ⟨by rfl, ?_⟩) ?_ ?_
                              rotate_left
                              · intro w'
                                go_simp
                                with_reducible rfl
                              rotate_left
                              · simp only [Act.put, List.setIfInBounds_toArray, List.set_cons_zero, List.set_cons_succ, i64_w, i32_w]
                                rfl
                              refine pure_ (i := 3) (N := some 36) (v := ?_) (a' := ?_) #[true, true, true, true, false, false, false, false, false, false, false] rfl rfl (any_of HT_.out (by kernel_rfl)) (fun _ _ _ h => h) (Or.inl ⟨by rfl, ?_⟩) ?_ ?_
                              rotate_left
                              · intro w'
                                go_simp
                                with_reducible rfl
                              rotate_left
                              · simp only [Act.put, List.setIfInBounds_toArray, List.set_cons_zero, List.set_cons_succ, i64_w, i32_w]
                                rfl
                              refine pure_ (i := 4) (N := some 37) (v := ?_) (a' := ?_) #[true, true, true, true, true, false, false, false, false, false, false] rfl rfl (any_of HT_.out (by kernel_rfl)) (fun _ _ _ h => h) (Or.inl ⟨by rfl, ?_⟩) ?_ ?_
                              rotate_left
                              · intro w'
                                go_simp
                                with_reducible rfl
                              rotate_left
                              · simp only [Act.put, List.setIfInBounds_toArray, List.set_cons_zero, List.set_cons_succ, i64_w, i32_w]
                                rfl
                              refine take_ (i := 5) (N := some 38) (v := ?_) (a' := ?_) #[true, true, true, true, true, true, false, false, false, false, false] rfl rfl (take_ofW HT_.out HW_.out (by kernel_rfl)) (fun _ _ _ h => h) (Or.inl ⟨by rfl, ?_⟩) hHeld ?_ ?_
                              rotate_left
                              · rintro w' ⟨s0, s1, s2, s3⟩
                                go_simp
                                with_reducible rfl
                              rotate_left
                              · simp only [Act.put, List.setIfInBounds_toArray, List.set_cons_zero, List.set_cons_succ, i64_w, i32_w]
                                rfl
                              refine take_ (i := 6) (N := some 39) (v := ?_) (a' := ?_) #[true, true, true, true, true, true, true, false, false, false, false] rfl rfl (take_ofW HT_.out HW_.out (by kernel_rfl)) (fun _ _ _ h => h) (Or.inl ⟨by rfl, ?_⟩) hHeld ?_ ?_
                              rotate_left
                              · rintro w' ⟨s0, s1, s2, s3⟩
                                go_simp
                                with_reducible rfl
                              rotate_left
                              · simp only [Act.put, List.setIfInBounds_toArray, List.set_cons_zero, List.set_cons_succ, i64_w, i32_w]
                                rfl
                              refine one_ (i := 7) (N := some 40) #[true, true, true, true, true, true, true, true, false, false, false] rfl rfl (one_of HT_.out (by kernel_rfl)) (by decide) (fun K hK => ?_)
                              refine value_ (w1 := ?_) (v := ?_) (by rfl) rfl ?_ ?_
                              rotate_left 2
                              · go_simp
                                constructor
                                · rfl
                                · rfl
                              refine hK.out _ _ ⟨(blk_cell (blk_alloc BK105.out _) 0).trans rfl, (blk_cell (blk_alloc BK105.out _) 1).trans rfl, (blk_cell (blk_alloc BK105.out _) 2).trans rfl, (World.cell?_alloc_lt _ _ _ (World.block_lt_of_cell? _ _ (hHeld.2.2.2))).trans (hHeld.2.2.2)⟩ (fun hHeld => ?_)
                              clear hK K
                              refine norm_ (a' := ?_) ?_ ?_
                              rotate_left
                              · show Act.put _ (some 40) _ = _
                                simp only [Act.put, List.setIfInBounds_toArray, List.set_cons_zero, List.set_cons_succ, i64_w, i32_w]
                                rfl
                              refine one_ (i := 8) (N := some 41) #[true, true, true, true, true, true, true, true, true, false, false] rfl rfl (one_of HT_.out (by kernel_rfl)) (by decide) (fun K hK => ?_)
                              refine Kd.R_append_step k44 (w0 := w) w.heap.size (by rfl) (.tmp 38) (.tmp 40) 40 44 (.agg #[(.string ⟨#[]⟩), (.string ⟨#[]⟩), (.bool false)]) 40 rfl Try.underlying40 info44 rfl (by decide) (by omega) (.slice A108_0 (rd_L3 x5_2 t106).length c108_0) (rd_L3 x5_2 t106) (⟨(rd_T44 l0 x20_2).f0, (rd_T44 l0 x20_2).f1, (rd_T44 l0 x20_2).f2⟩ : S44) [.string ((rd_T44 l0 x20_2).f0), .string ((rd_T44 l0 x20_2).f1), .bool ((rd_T44 l0 x20_2).f2)] (fun k_ => oki24 k_ ∨ ((fun k_ => k_ ≠ gb105)) k_ ∧ w22.heap.size ≤ k_) (fun _ => False) rfl rfl ?aP (fun _ hk => hk.elim) ?aF ?aO ?aB ?aS ?aL ?_
                              (case aP => exact k44_mkM _ _ _ (⟨(rd_T44 l0 x20_2).f0, (rd_T44 l0 x20_2).f1, (rd_T44 l0 x20_2).f2⟩ : S44))
                              (case aB => exact (by repeat (first | (with_reducible first | exact HB.out | apply below_alloc | apply pw_below_drewN | apply below_drew1 | refine below_set ?_ GE105.out) | exact HB.out)))
                              (case aF => exact (fun k_ hk => .inr ⟨Kd.freshB (g := gb105) (o := .cells #[.string ((rd_T44 l0 x20_2).f0), .string ((rd_T44 l0 x20_2).f1), .bool ((rd_T44 l0 x20_2).f2)] 44 (0, 0)) (by (with_reducible repeat (first | refine blk_drewN ?_ _ | refine blk_drew ?_ | refine blk_alloc ?_ _)); exact BK105.out) k_ hk, hk⟩))
                              (case aO => exact (by (with_reducible repeat (first | apply Kd.R_alloc | apply Kd.R_drewN | apply Kd.R_drew)); exact Kd.R_mono UU24.out (fun _ hk => .inl hk)))
                              (case aS => exact (below_size (by repeat (first | (with_reducible first | exact HB.out | apply below_alloc | apply pw_below_drewN | apply below_drew1 | refine below_set ?_ GE105.out) | exact HB.out))))
                              (case aL => have := LMc17.out; omega)
                              intro v110 w25 ho hb hg hat
                              (first | have HS3_ := cell_grown hg (hHeld.2.2.2) (by first | (rw [add_block]; exact (fun e_ => ((HL108_0.out.1 _ e_.symm).2) rfl)) | (show some (Addr.add _ _).block ≠ _; rw [add_block]; exact (fun e_ => ((HL108_0.out.1 _ e_.symm).2) rfl)) | exact (fun e_ => ((HL108_0.out.1 _ e_.symm).2) rfl)) | have HS3_ := cell_grown hg (cell_unalloc (hHeld.2.2.2) (by first | (rw [add_block]; exact Kd.S_lt HO_5.out _ rfl) | (show (Addr.add _ _).block < _; rw [add_block]; exact Kd.S_lt HO_5.out _ rfl) | exact Kd.S_lt HO_5.out _ rfl)) (by first | (rw [add_block]; exact (fun e_ => ((HL108_0.out.1 _ e_.symm).2) rfl)) | (show some (Addr.add _ _).block ≠ _; rw [add_block]; exact (fun e_ => ((HL108_0.out.1 _ e_.symm).2) rfl)) | exact (fun e_ => ((HL108_0.out.1 _ e_.symm).2) rfl)))
                              rw [← Ny109.out] at ho
                              have n0_ := Aside0.mk (blk_grown (g := gb105) (o := .cells #[.string ((rd_T44 l0 x20_2).f0), .string ((rd_T44 l0 x20_2).f1), .bool ((rd_T44 l0 x20_2).f2)] 44 (0, 0)) (by (with_reducible repeat (first | refine blk_drewN ?_ _ | refine blk_drew ?_ | refine blk_alloc ?_ _)); exact BK105.out) hg (Kd.R_away HL108_0.out (fun _ hk => hk.1)))
                              have n1_ := Aside0.mk (hb)
                              have n2_ := Aside0.mk (Kd.H_grown (Kd.H_widen (by repeat (first | exact HH24.out | refine Kd.H_alloc ?_ _ | refine Kd.H_drewN ?_ _ | refine Kd.H_drew ?_))) hg (fun k_ e_ => .inl (UU24.out.1 k_ e_)))
                              have n3_ := Aside0.mk (ho)
                              clear BK105
                              clear HB
                              clear HH24
                              clear HO_5
                              clear UU24
                              clear HL108_0
                              have BK105 := n0_
                              have HB := n1_
                              have HH24 := n2_
                              have HO111 := n3_
                              clear n0_ n1_ n2_ n3_
                              clear ho hb hg hat
                              have p18 : 0 ≤ (t106 : Int) := of_decide_eq_true (by first | (with_reducible assumption) | assumption)
                              have q18 : (t106 : Int) < ((x5_2.length : Int) : Int) := of_decide_eq_true (by first | (with_reducible assumption) | assumption)
                              replace p18 := eq_true p18
                              replace q18 := eq_true q18
                              obtain ⟨Ao28, co28, eo28⟩ := Kd.R_slice HO111.out
                              (first | subst eo28 | (injection eo28 with f1_ f2_ f3_; have f4_ := f1_.symm; have f5_ := f3_.symm; clear f1_ f2_ f3_; subst f4_; subst f5_))
                              obtain ⟨_, _, hraw26, _, _, hcc26, _⟩ := Kd.H_raw HH24.out (of_decide_eq_true (by first | (with_reducible assumption) | assumption)) (by have h_ : (t106 : Int) < ((x5_2.length : Int) : Int) := of_decide_eq_true (by first | (with_reducible assumption) | assumption); first | exact h_ | (have e_ := (HN24.out); omega) | simpa using h_)
                              obtain ⟨_, hfr26⟩ := Kd.H_at HH24.out (of_decide_eq_true (by first | (with_reducible assumption) | assumption)) (by have h_ : (t106 : Int) < ((x5_2.length : Int) : Int) := of_decide_eq_true (by first | (with_reducible assumption) | assumption); first | exact h_ | (have e_ := (HN24.out); omega) | simpa using h_)
                              have hx26_0 := hcc26 0 _ rfl
                              have hf26_0 := hfr26 0
                              (try simp only [Nat.add_zero] at hx26_0 hf26_0)
                              (try rw [show ((Kd.slice 44 k44)).sz = 1 from rfl, Nat.mul_one] at hx26_0)
                              (try rw [show ((Kd.slice 44 k44)).sz = 1 from rfl, Nat.mul_one] at hf26_0)
                              have HP26 := Kd.S_seg0 HH24.out (of_decide_eq_true (by first | (with_reducible assumption) | assumption)) (by have h_ : (t106 : Int) < ((x5_2.length : Int) : Int) := of_decide_eq_true (by first | (with_reducible assumption) | assumption); first | exact h_ | (have e_ := (HN24.out); omega) | simpa using h_) (seg := [.slice Ao28 y109.length co28]) (j := 0) (show 1 ≤ 1 from by decide) (x' := y109) (Kd.M_row HO111.out) (fun _ hk => hk)
                              (try simp only [show ((Kd.slice 44 k44)).sz = 1 from rfl, Nat.mul_one, Nat.add_zero] at HP26)
                              clear hcc26 hfr26
                              have HNB105_go24 := Aside0.mk (show gb105 ≠ go24 from by have h_ := Kd.R_ne hraw26 BK105.out (by decide); intro e_; exact h_ (by rw [e_]; rfl))
                              have HS26 := HP26.1
                              rw [← Ny112.out] at HS26
                              have HQ26 := Aside0.mk HS26
                              obtain ⟨_, hgg26⟩ := Kd.R_typed hraw26 go24 rfl
                              have GG26_ := Aside0.mk hgg26
                              clear HP26 HS26 hgg26
                              refine hK.out _ _ ⟨(blk_cell BK105.out 0).trans rfl, (blk_cell BK105.out 1).trans rfl, (blk_cell BK105.out 2).trans rfl, HS3_⟩ (fun hHeld => ?_)
                              clear hK K
                              refine norm_ (a' := ?_) ?_ ?_
                              rotate_left
                              · show Act.put _ (some 41) _ = _
                                simp only [Act.put, List.setIfInBounds_toArray, List.set_cons_zero, List.set_cons_succ, i64_w, i32_w]
                                rfl
                              refine pure_ (i := 9) (N := some 42) (v := ?_) (a' := ?_) #[true, true, true, true, true, true, true, true, true, true, false] rfl rfl (any_of HT_.out (by kernel_rfl)) (fun _ _ _ h => h) (Or.inl ⟨by rfl, ?_⟩) ?_ ?_
                              rotate_left
                              · intro w'
                                go_simp
                                with_reducible rfl
                              rotate_left
                              · simp only [Act.put, List.setIfInBounds_toArray, List.set_cons_zero, List.set_cons_succ, i64_w, i32_w]
                                rfl
                              refine last_ (i := 10) (N := none) #[true, true, true, true, true, true, true, true, true, true, true] rfl rfl (one_of HT_.out (by kernel_rfl)) (by decide) (fun K hK => ?_)
                              refine skip_ (w1 := ?_) (by rfl) rfl ?_ ?_
                              rotate_left
                              · go_simp
                                rfl
                              refine hK.out _ _ ?_
                              clear hK K
                              refine done_ (done_of HT_.out (by kernel_rfl)) ?_
                              try go_wp2
                              go_roundg k2
                              case measure => have := HJ2.out; have := HK2.out; omega
                              case rel => exact ⟨(y112), (wrap64 (x20_2 + 1)), (by first | rfl | (simp; done) | (simp [*]; done)), H', ⟨by have := HJ2.out; have := HK2.out; omega⟩, ⟨by (with_reducible repeat (first | apply Kd.S_alloc | apply Kd.S_drewN | apply Kd.S_drew)); exact Kd.S_mono HQ26.out (fun _ hk => trivial)⟩, ⟨by repeat (first | (with_reducible first | exact HB.out | apply below_alloc | apply pw_below_drewN | apply below_drew1 | refine below_set ?_ GB24.out | refine below_set ?_ GE105.out) | exact HB.out)⟩⟩
                            · rw [if_neg c17] at H
                              exact absurd H (by simp)
                          · rw [if_neg c16] at H
                            exact absurd H (by simp)
                        · rw [if_neg c15] at H
                          exact absurd H (by simp)
                      · rw [if_neg c14] at H
                        have c14b0 : (t107 == 0) = false := beq_eq_false_iff_ne.mpr c14
                        have c14b1 : (t107 != 0) = true := bne_iff_ne.mpr c14
                        have H' := Aside0.mk H
                        clear H
                        have p104 : 0 ≤ (x20_2 : Int) := of_decide_eq_true (by first | (with_reducible assumption) | assumption)
                        have q104 : x20_2 < (l0.length : Int) := of_decide_eq_true (by first | (with_reducible assumption) | assumption)
                        obtain ⟨ad104, e104, hx104_0, hx104_1, hx104_2⟩ := at_T44 HR0.out x20_2 p104 q104
                        cases e104
                        replace hx104_0 := (HB.out.cell (World.block_lt_of_cell? w _ hx104_0)).trans hx104_0
                        replace hx104_1 := (HB.out.cell (World.block_lt_of_cell? w _ hx104_1)).trans hx104_1
                        replace hx104_2 := (HB.out.cell (World.block_lt_of_cell? w _ hx104_2)).trans hx104_2
                        replace p104 := eq_true p104
                        replace q104 := eq_true q104
                        go_wp2_with (first | ((with_reducible refine gate_dst (N := 7) rfl ?_); refine box_event ?hg (N := 7) ?hd (cs := #[.string (⟨#[]⟩ : ByteArray), .string (⟨#[]⟩ : ByteArray), .bool false]) (t := 44) ?hr ?_; (case hd => rfl); (case hg => rfl); (case hr => first | (go_simp; done) | (go_simp; rfl)); intro gb105 hg w29 hbox hb; have n0_ := Aside0.mk (Kd.S_below (Kd.S_elderB (by (with_reducible repeat (first | apply Kd.S_alloc | apply Kd.S_drewN | apply Kd.S_drew)); exact HO_5.out) gb105 (Nat.le_of_eq hg.symm)) hb); have n1_ := Aside0.mk (below_step (by repeat (first | (with_reducible first | exact HB.out | apply below_alloc | apply pw_below_drewN | apply below_drew1) | exact HB.out)) hb); have n2_ := Aside0.mk (hbox); have n3_ := Aside0.mk ((by rw [hg]; exact (below_size (by repeat (first | (with_reducible first | exact HB.out | apply below_alloc | apply pw_below_drewN | apply below_drew1) | exact HB.out))) : w.heap.size ≤ gb105)); have n4_ := Aside0.mk ((by rw [hg]; exact (below_size (by repeat (first | (with_reducible first | exact HB.out | apply below_alloc | apply pw_below_drewN | apply below_drew1) | exact HB.out))) : w.heap.size ≤ gb105)); clear HO_5; clear HB; have HO_5 := n0_; have HB := n1_; have BK105 := n2_; have GW105 := n3_; have GE105 := n4_; clear n0_ n1_ n2_ n3_ n4_; clear hb hbox hg; have hcz30_0 : w29.cell? ⟨gb105, 0, none⟩ = some (.string (⟨#[]⟩ : ByteArray)) := (blk_cell BK105.out 0).trans rfl; have hcz30_1 : w29.cell? ⟨gb105, 1, none⟩ = some (.string (⟨#[]⟩ : ByteArray)) := (blk_cell BK105.out 1).trans rfl; have hcz30_2 : w29.cell? ⟨gb105, 2, none⟩ = some (.bool false) := (blk_cell BK105.out 2).trans rfl; have hfz30_0 := blk_frozen BK105.out 0; have hfz30_1 := blk_frozen BK105.out 1; have hfz30_2 := blk_frozen BK105.out 2) | ((with_reducible refine gate_callee (f := 11) rfl ?_); refine goesL_ (some 28) rfl rfl Try.func11 (by kernel_rfl) rfl #[.string ((rd_T44 l0 x20_2).f0), .int .i64 a1] rfl (by (try simp only [List.map_toArray, List.map_cons, List.map_nil]); first | done | rfl | (simp only [List.length_drop, List.length_take]; rfl)) ?_; (with_reducible refine (place_Shard.calls ((rd_T44 l0 x20_2).f0) a1 t106 t107 _ A13.out).mono ?_); rintro e w' ⟨rfl, ⟨nd, rfl⟩⟩; refine ⟨_, rfl, ?_⟩))
                        go_roundg k2
                        case measure => have := HJ2.out; have := HK2.out; omega
                        case rel => exact ⟨(x5_2), (wrap64 (x20_2 + 1)), (by first | rfl | (simp; done) | (simp [*]; done)), H', ⟨by have := HJ2.out; have := HK2.out; omega⟩, ⟨by (with_reducible repeat (first | apply Kd.S_alloc | apply Kd.S_drewN | apply Kd.S_drew)); exact Kd.S_mono (Kd.S_far (p := ⟨gb105, 2, none⟩) (Kd.S_far (p := ⟨gb105, 1, none⟩) (Kd.S_far (p := ⟨gb105, 0, none⟩) (Kd.S_mono HO_5.out (fun k_ hk => (⟨hk, hk.2⟩ : _ ∧ k_ ≠ gb105))) (fun _ hk => hk.2) (.string ((rd_T44 l0 x20_2).f0))) (fun _ hk => hk.2) (.string ((rd_T44 l0 x20_2).f1))) (fun _ hk => hk.2) (.bool ((rd_T44 l0 x20_2).f2))) (fun _ hk => trivial)⟩, ⟨by repeat (first | (with_reducible first | exact HB.out | apply below_alloc | apply pw_below_drewN | apply below_drew1 | refine below_set ?_ GE105.out) | exact HB.out)⟩⟩
                    · rw [if_neg c12] at H
                      exact absurd H (by simp)
                  · rw [if_neg c11] at H
                    exact absurd H (by simp)
                · rw [if_neg c10] at H
                  have c10b0 : decide (x20_2 < (l0.length : Int)) = false := decide_eq_false c10
                  clear c10
                  obtain rfl := Option.some.inj H
                  go_wp2
                  go_ret
                  exact ⟨_, by first | rfl | (simp [errW_none, errW_some] <;> rfl) | (simp [*, errW_none, errW_some] <;> rfl), by (with_reducible repeat (first | apply Kd.S_alloc | apply Kd.S_drewN | apply Kd.S_drew)); exact HO_5.out, by repeat (first | (with_reducible first | exact HB.out | apply below_alloc | apply pw_below_drewN | apply below_drew1) | exact HB.out)⟩
          · rw [if_neg c7] at H
            exact absurd H (by simp)
        · rw [if_neg c6] at H
          exact absurd H (by simp)

/-! ### dovecoteref13_Walk: function 10 -/


/-! ### dovecoteref09_Key: function 18 -/


/-! ### dovecoteref13_Shard: function 12 -/
def dovecoteref13_Shard.f (a0 : ByteArray) (a1 : Int) : Option (Int × Int) := some (sv a0 a1, se a0 a1)
theorem dovecoteref13_Shard.calls (a0 : ByteArray) (a1 : Int) (r1 : Int) (r2 : Int) (w : World) (h : dovecoteref13_Shard.f a0 a1 = some (r1, r2)) :
    Calls Try.prog 12 #[.string a0, .int .i64 a1] w fun e w' => e = .returned (.tuple #[.int .i64 r1, .int .i64 r2]) ∧ Drawn0 w w' := by
  simp only [dovecoteref13_Shard.f, Option.some.injEq, Prod.mk.injEq] at h
  obtain ⟨rfl, rfl⟩ := h
  exact rshardAny a0 a1 w


/-! ### dovecoteref13_Split: function 16 -/
mutual
def dovecoteref13_Split.j0 : Nat → List (S44) → Int → Bool → Option ((List (List (S44))))
  | 0, _, _, _ => none
  | k + 1, x0, x1, x16 => if x16 = true then (some ([] : List (List (S44)))) else (dovecoteref13_Split.l0 k x0 x1 ([] : List (List (S44))) 0)
def dovecoteref13_Split.l0 : Nat → List (S44) → Int → List (List (S44)) → Int → Option ((List (List (S44))))
  | 0, _, _, _, _ => none
  | k + 1, x0, x1, x5, x6 => if x6 < x1 then (dovecoteref13_Split.l1 k x0 x1 x5 x6 ([] : List (S44)) 0) else (some x5)
def dovecoteref13_Split.l1 : Nat → List (S44) → Int → List (List (S44)) → Int → List (S44) → Int → Option ((List (List (S44))))
  | 0, _, _, _, _, _, _ => none
  | k + 1, x0, x1, x5, x6, x7, x8 => if x8 < (x0.length : Int) then (if 0 ≤ x8 then ((dovecoteref13_Shard.f ((rd_T44 x0 x8).f0) x1).bind fun bt114 => (if bt114.2 = 0 then (if bt114.1 = x6 then (if x7.length < 3518437208883 then (dovecoteref13_Split.l1 k x0 x1 x5 x6 (x7 ++ [(⟨(rd_T44 x0 x8).f0, (rd_T44 x0 x8).f1, (rd_T44 x0 x8).f2⟩ : S44)]) (wrap64 (x8 + 1))) else (none)) else (dovecoteref13_Split.l1 k x0 x1 x5 x6 x7 (wrap64 (x8 + 1)))) else (dovecoteref13_Split.l1 k x0 x1 x5 x6 x7 (wrap64 (x8 + 1))))) else (none)) else (if x5.length < 5864062014805 then (dovecoteref13_Split.l0 k x0 x1 (x5 ++ [x7]) (wrap64 (x6 + 1))) else (none))
end
def dovecoteref13_Split.f (k : Nat) (l0 : List (S44)) (a1 : Int) : Option ((List (List (S44)))) := if a1 < 1 then (dovecoteref13_Split.j0 k l0 a1 true) else (dovecoteref13_Split.j0 k l0 a1 (decide (a1 > 8)))
theorem dovecoteref13_Split.mono_l : ∀ k, (∀ y0 y1 y2, LeO (dovecoteref13_Split.j0 k y0 y1 y2) (dovecoteref13_Split.j0 (k + 1) y0 y1 y2)) ∧ (∀ y0 y1 y2 y3, LeO (dovecoteref13_Split.l0 k y0 y1 y2 y3) (dovecoteref13_Split.l0 (k + 1) y0 y1 y2 y3)) ∧ (∀ y0 y1 y2 y3 y4 y5, LeO (dovecoteref13_Split.l1 k y0 y1 y2 y3 y4 y5) (dovecoteref13_Split.l1 (k + 1) y0 y1 y2 y3 y4 y5))
  | 0 => ⟨fun _ _ _ r h => by simp [dovecoteref13_Split.j0] at h, fun _ _ _ _ r h => by simp [dovecoteref13_Split.l0] at h, fun _ _ _ _ _ _ r h => by simp [dovecoteref13_Split.l1] at h⟩
  | k + 1 => by
    obtain ⟨ih0, ih1, ih2⟩ := dovecoteref13_Split.mono_l k
    refine ⟨?_, ?_, ?_⟩
    · intro y0 y1 y2
      unfold dovecoteref13_Split.j0
      repeat' first
      | (with_reducible exact ih0 _ _ _)
      | (with_reducible exact ih1 _ _ _ _)
      | (with_reducible exact ih2 _ _ _ _ _ _)
      | (with_reducible exact LeO.refl _)
      | (with_reducible exact LeO.none _)
      | (with_reducible refine LeO.ite ?_ ?_)
      | (with_reducible refine LeO.bind ?_ (fun _ => ?_))
      | exact ih0 _ _ _
      | exact ih1 _ _ _ _
      | exact ih2 _ _ _ _ _ _
      | exact LeO.none _
      | refine LeO.ite ?_ ?_
      | refine LeO.bind ?_ (fun _ => ?_)
    · intro y0 y1 y2 y3
      unfold dovecoteref13_Split.l0
      repeat' first
      | (with_reducible exact ih0 _ _ _)
      | (with_reducible exact ih1 _ _ _ _)
      | (with_reducible exact ih2 _ _ _ _ _ _)
      | (with_reducible exact LeO.refl _)
      | (with_reducible exact LeO.none _)
      | (with_reducible refine LeO.ite ?_ ?_)
      | (with_reducible refine LeO.bind ?_ (fun _ => ?_))
      | exact ih0 _ _ _
      | exact ih1 _ _ _ _
      | exact ih2 _ _ _ _ _ _
      | exact LeO.none _
      | refine LeO.ite ?_ ?_
      | refine LeO.bind ?_ (fun _ => ?_)
    · intro y0 y1 y2 y3 y4 y5
      unfold dovecoteref13_Split.l1
      repeat' first
      | (with_reducible exact ih0 _ _ _)
      | (with_reducible exact ih1 _ _ _ _)
      | (with_reducible exact ih2 _ _ _ _ _ _)
      | (with_reducible exact LeO.refl _)
      | (with_reducible exact LeO.none _)
      | (with_reducible refine LeO.ite ?_ ?_)
      | (with_reducible refine LeO.bind ?_ (fun _ => ?_))
      | exact ih0 _ _ _
      | exact ih1 _ _ _ _
      | exact ih2 _ _ _ _ _ _
      | exact LeO.none _
      | refine LeO.ite ?_ ?_
      | refine LeO.bind ?_ (fun _ => ?_)
theorem dovecoteref13_Split.mono : ∀ a0 a1 k, LeO (dovecoteref13_Split.f k a0 a1) (dovecoteref13_Split.f (k + 1) a0 a1) := by
  intro a0 a1 k
  obtain ⟨ih0, ih1, ih2⟩ := dovecoteref13_Split.mono_l k
  unfold dovecoteref13_Split.f
  repeat' first
      | (with_reducible exact ih0 _ _ _)
      | (with_reducible exact ih1 _ _ _ _)
      | (with_reducible exact ih2 _ _ _ _ _ _)
      | (with_reducible exact LeO.refl _)
      | (with_reducible exact LeO.none _)
      | (with_reducible refine LeO.ite ?_ ?_)
      | (with_reducible refine LeO.bind ?_ (fun _ => ?_))
      | exact ih0 _ _ _
      | exact ih1 _ _ _ _
      | exact ih2 _ _ _ _ _ _
      | exact LeO.none _
      | refine LeO.ite ?_ ?_
      | refine LeO.bind ?_ (fun _ => ?_)
set_option maxHeartbeats 8000000 in
set_option maxRecDepth 100000 in
theorem dovecoteref13_Split.calls (k : Nat) (A0 : Option Addr) (c0 : Nat) (l0 : List (S44)) (a1 : Int) (r : List (List (S44))) (w : World) (hr0 : Kd.C k44 w A0 l0.length l0) (hc0 : l0.length ≤ c0) (h : dovecoteref13_Split.f k l0 a1 = some r) :
    Calls Try.prog 16 #[.slice A0 l0.length c0, .int .i64 a1] w fun e w' => ∃ v0_ : Value, e = .returned (v0_) ∧ Kd.S (Kd.slice 44 k44) 40 w' w.heap.size (fun _ => True) v0_ r ∧ Below w.heap.size w w' := by
  have hu44 := Try.underlying44
  have HR0 := Aside0.mk hr0
  have HC0 := Aside0.mk hc0
  clear hr0 hc0
  have HB := Aside0.mk (Below.refl w.heap.size w)
  have H : (if a1 < 1 then (dovecoteref13_Split.j0 k l0 a1 true) else (dovecoteref13_Split.j0 k l0 a1 (decide (a1 > 8)))) = some r := h
  clear h
  have HC3 := Aside0.mk H
  clear H
  go_enter Try.func16, Try.ntmps16
  go_upto_region 1 with (fail)
  go_cut [16] (fun v16 wc => ∃ (kq : Nat) (x16_2 : Bool), v16 = .bool x16_2 ∧ Aside0 (dovecoteref13_Split.j0 kq l0 a1 x16_2 = some r) ∧ Aside0 (kq ≤ k) ∧ Aside0 (Below w.heap.size w wc))
  case first =>
    have H := HC3.out
    clear HC3
    by_cases c4 : a1 < 1
    · rw [if_pos c4] at H
      have c4b0 : decide (a1 < 1) = true := decide_eq_true c4
      clear c4
      (first | rw [c4b0] | (simp only [i64_w, i32_w]; rw [c4b0]) | skip)
      have H' := Aside0.mk H
      clear H
      go_wp2
      go_meet
      case rel => exact ⟨_, (true), (by first | rfl | (simp; done) | (simp [*]; done)), H', ⟨by first | omega | exact Nat.le_refl _⟩, ⟨by repeat (first | (with_reducible first | exact HB.out | apply below_alloc | apply pw_below_drewN | apply below_drew1) | exact HB.out)⟩⟩
    · rw [if_neg c4] at H
      have c4b0 : decide (a1 < 1) = false := decide_eq_false c4
      clear c4
      (first | rw [c4b0] | (simp only [i64_w, i32_w]; rw [c4b0]) | skip)
      have H' := Aside0.mk H
      clear H
      go_wp2
      go_meet
      case rel => exact ⟨_, (decide (a1 > 8)), (by first | rfl | (simp; done) | (simp [*]; done)), H', ⟨by first | omega | exact Nat.le_refl _⟩, ⟨by repeat (first | (with_reducible first | exact HB.out | apply below_alloc | apply pw_below_drewN | apply below_drew1) | exact HB.out)⟩⟩
  case rest =>
    clear HC3
    try clear c1
    try clear p2
    try clear c4
    try clear c4b0
    obtain ⟨kq, x16_2, rfl, HA, HJ2, HB⟩ := hcut
    cases kq with
    | zero => exact absurd HA.out (by simp [dovecoteref13_Split.j0])
    | succ kj2 =>
      have H := HA.out
      clear HA
      simp only [dovecoteref13_Split.j0] at H
      by_cases c5 : x16_2 = true
      · subst c5
        have H1 : (some ([] : List (List (S44)))) = some r := by rw [if_pos rfl] at H; exact H
        clear H
        have H := H1
        clear H1
        obtain rfl := Option.some.inj H
        go_wp2
        go_ret
        exact ⟨_, by first | rfl | (simp [errW_none, errW_some] <;> rfl) | (simp [*, errW_none, errW_some] <;> rfl), by first | exact Kd.S_nil _ _ _ _ _ | exact Kd.N_nil _ _ _ _ _ | exact Kd.V_nil _ _ _ _ _ | exact Kd.Q_nil _ _ _ _ _ | exact Kd.R_nil _ _ _ _ _, by repeat (first | (with_reducible first | exact HB.out | apply below_alloc | apply pw_below_drewN | apply below_drew1) | exact HB.out)⟩
      · replace c5 := Bool.eq_false_iff.mpr c5
        subst c5
        have H1 : (dovecoteref13_Split.l0 kj2 l0 a1 ([] : List (List (S44))) 0) = some r := by rw [if_neg (show ¬ (false = true) by decide)] at H; exact H
        clear H
        have H := H1
        clear H1
        have H' := Aside0.mk H
        clear H
        go_wp2
        go_loopg [5, 6] kj2 (fun kq v5 v6 w' => ∃ (x5_2 : List (List (S44))) (x6_2 : Int), v6 = .int .i64 x6_2 ∧ Aside0 (dovecoteref13_Split.l0 kq l0 a1 x5_2 x6_2 = some r) ∧ Aside0 (kq ≤ kj2) ∧ Aside0 (Kd.S (Kd.slice 44 k44) 40 w' w.heap.size (fun _ => True) v5 x5_2) ∧ Aside0 (Below w.heap.size w w'))
        case atStart => exact ⟨(([] : List (List (S44)))), (0), (by first | rfl | (simp; done) | (simp [*]; done)), H', ⟨Nat.le_refl _⟩, ⟨by first | exact Kd.S_nil _ _ _ _ _ | exact Kd.N_nil _ _ _ _ _ | exact Kd.V_nil _ _ _ _ _ | exact Kd.Q_nil _ _ _ _ _ | exact Kd.R_nil _ _ _ _ _⟩, ⟨by repeat (first | (with_reducible first | exact HB.out | apply below_alloc | apply pw_below_drewN | apply below_drew1) | exact HB.out)⟩⟩
        case round =>
          clear H'
          try clear c1
          try clear p2
          try clear c4
          try clear c4b0
          try clear c5
          try clear p2
          obtain ⟨x5_2, x6_2, rfl, HA, HK2, HO_5, HB⟩ := hrel
          cases gk with
          | zero => exact absurd HA.out (by simp [dovecoteref13_Split.l0])
          | succ k2 =>
            have H := HA.out
            clear HA
            simp only [dovecoteref13_Split.l0] at H
            by_cases c6 : x6_2 < a1
            · rw [if_pos c6] at H
              have c6b0 : decide (x6_2 < a1) = true := decide_eq_true c6
              clear c6
              have H' := Aside0.mk H
              clear H
              go_wp2
              go_loopg [7, 8] k2 (fun kq v7 v8 w' => ∃ (x7_3 : List (S44)) (x8_3 : Int), v8 = .int .i64 x8_3 ∧ Aside0 (dovecoteref13_Split.l1 kq l0 a1 x5_2 x6_2 x7_3 x8_3 = some r) ∧ Aside0 (kq ≤ k2) ∧ Aside0 (Kd.S (Kd.slice 44 k44) 40 w' w.heap.size (fun k_ => some k_ ≠ (v7 : Value).ownBlock) u5 x5_2) ∧ Aside0 (Kd.R k44 44 w' w.heap.size (fun _ => True) v7 x7_3) ∧ Aside0 (Below w.heap.size w w'))
              case atStart => exact ⟨(([] : List (S44))), (0), (by first | rfl | (simp; done) | (simp [*]; done)), H', ⟨Nat.le_refl _⟩, ⟨by (with_reducible repeat (first | apply Kd.S_alloc | apply Kd.S_drewN | apply Kd.S_drew)); exact Kd.S_mono HO_5.out (fun _ hk => (by simp [Value.ownBlock]))⟩, ⟨by first | exact Kd.R_nil _ _ _ _ _ | exact Kd.N_nil _ _ _ _ _ | exact Kd.V_nil _ _ _ _ _ | exact Kd.Q_nil _ _ _ _ _ | exact Kd.S_nil _ _ _ _ _⟩, ⟨by repeat (first | (with_reducible first | exact HB.out | apply below_alloc | apply pw_below_drewN | apply below_drew1) | exact HB.out)⟩⟩
              case round =>
                clear H'
                try clear c1
                try clear p2
                try clear c4
                try clear c4b0
                try clear c5
                try clear c6
                try clear c6b0
                try clear p2
                obtain ⟨x7_3, x8_3, rfl, HA, HK3, HO_5, HO_7, HB⟩ := hrel
                cases gk with
                | zero => exact absurd HA.out (by simp [dovecoteref13_Split.l1])
                | succ k3 =>
                  have H := HA.out
                  clear HA
                  simp only [dovecoteref13_Split.l1] at H
                  by_cases c7 : x8_3 < (l0.length : Int)
                  · rw [if_pos c7] at H
                    have c7b0 : decide (x8_3 < (l0.length : Int)) = true := decide_eq_true c7
                    clear c7
                    by_cases c8 : 0 ≤ x8_3
                    · rw [if_pos c8] at H
                      have c8b0 : decide (0 ≤ x8_3) = true := decide_eq_true c8
                      clear c8
                      replace H := Option.bind_eq_some_iff.mp H
                      obtain ⟨⟨t114, t115⟩, A90, H⟩ := H
                      replace H : (if t115 = 0 then (if t114 = x6_2 then (if x7_3.length < 3518437208883 then (dovecoteref13_Split.l1 k3 l0 a1 x5_2 x6_2 (x7_3 ++ [(⟨(rd_T44 l0 x8_3).f0, (rd_T44 l0 x8_3).f1, (rd_T44 l0 x8_3).f2⟩ : S44)]) (wrap64 (x8_3 + 1))) else (none)) else (dovecoteref13_Split.l1 k3 l0 a1 x5_2 x6_2 x7_3 (wrap64 (x8_3 + 1)))) else (dovecoteref13_Split.l1 k3 l0 a1 x5_2 x6_2 x7_3 (wrap64 (x8_3 + 1)))) = some r := H
                      have A9 := Aside0.mk A90
                      clear A90
                      by_cases c10 : t115 = 0
                      · rw [if_pos c10] at H
                        have c10b0 : (t115 == 0) = true := beq_iff_eq.mpr c10
                        have c10b1 : (t115 != 0) = false := bne_eq_false_iff_eq.mpr c10
                        clear c10
                        by_cases c11 : t114 = x6_2
                        · rw [if_pos c11] at H
                          have c11b0 : (t114 == x6_2) = true := beq_iff_eq.mpr c11
                          have c11b1 : (t114 != x6_2) = false := bne_eq_false_iff_eq.mpr c11
                          clear c11
                          by_cases c12 : x7_3.length < 3518437208883
                          · rw [if_pos c12] at H
                            have LMc12 := Aside0.mk c12
                            clear c12
                            obtain ⟨y117, hy117⟩ : ∃ y_ : List (S44), y_ = (x7_3 ++ [(⟨(rd_T44 l0 x8_3).f0, (rd_T44 l0 x8_3).f1, (rd_T44 l0 x8_3).f2⟩ : S44)]) := ⟨_, rfl⟩
                            replace H : (dovecoteref13_Split.l1 k3 l0 a1 x5_2 x6_2 y117 (wrap64 (x8_3 + 1))) = some r := by first | (rw [hy117]; with_reducible exact H) | (have H2_ := (Option.bind_some _ _).symm.trans H; rw [hy117]; with_reducible exact H2_) | (have H2_ := (Option.bind_some _ _).symm.trans H; with_reducible exact H2_) | with_reducible exact H | (rw [hy117]; exact H) | exact H
                            have Ny117 := Aside0.mk hy117
                            clear hy117
                            have H' := Aside0.mk H
                            clear H
                            have p113 : 0 ≤ (x8_3 : Int) := of_decide_eq_true (by first | (with_reducible assumption) | assumption)
                            have q113 : x8_3 < (l0.length : Int) := of_decide_eq_true (by first | (with_reducible assumption) | assumption)
                            obtain ⟨ad113, e113, hx113_0, hx113_1, hx113_2⟩ := at_T44 HR0.out x8_3 p113 q113
                            cases e113
                            replace hx113_0 := (HB.out.cell (World.block_lt_of_cell? w _ hx113_0)).trans hx113_0
                            replace hx113_1 := (HB.out.cell (World.block_lt_of_cell? w _ hx113_1)).trans hx113_1
                            replace hx113_2 := (HB.out.cell (World.block_lt_of_cell? w _ hx113_2)).trans hx113_2
                            replace p113 := eq_true p113
                            replace q113 := eq_true q113
                            go_wp2_with (first | ((with_reducible refine gate_callee (f := 12) rfl ?_); refine goesL_ (some 35) rfl rfl Try.func12 (by kernel_rfl) rfl #[.string ((rd_T44 l0 x8_3).f0), .int .i64 a1] rfl (by (try simp only [List.map_toArray, List.map_cons, List.map_nil]); first | done | rfl | (simp only [List.length_drop, List.length_take]; rfl)) ?_; (with_reducible refine (dovecoteref13_Shard.calls ((rd_T44 l0 x8_3).f0) a1 t114 t115 _ A9.out).mono ?_); rintro e w' ⟨rfl, ⟨nd, rfl⟩⟩; refine ⟨_, rfl, ?_⟩; have p116 : 0 ≤ (x8_3 : Int) := of_decide_eq_true (by first | (with_reducible assumption) | assumption); have q116 : x8_3 < (l0.length : Int) := of_decide_eq_true (by first | (with_reducible assumption) | assumption); obtain ⟨ad116, e116, hx116_0, hx116_1, hx116_2⟩ := at_T44 HR0.out x8_3 p116 q116; obtain rfl : ad113 = ad116 := (by injection e116); replace hx116_0 := (HB.out.cell (World.block_lt_of_cell? w _ hx116_0)).trans hx116_0; replace hx116_1 := (HB.out.cell (World.block_lt_of_cell? w _ hx116_1)).trans hx116_1; replace hx116_2 := (HB.out.cell (World.block_lt_of_cell? w _ hx116_2)).trans hx116_2; replace p116 := eq_true p116; replace q116 := eq_true q116) | ((with_reducible refine gate_builtin (b := .append) (xs := #[.tmp 45, .tmp 50]) rfl ?_); at_builtin; refine Kd.R_append k44 (w0 := w) w.heap.size rfl (.tmp 45) (.tmp 50) 40 44 (.agg #[(.string ⟨#[]⟩), (.string ⟨#[]⟩), (.bool false)]) 40 rfl Try.underlying40 info44 rfl (by decide) (by omega) u7 x7_3 (⟨(rd_T44 l0 x8_3).f0, (rd_T44 l0 x8_3).f1, (rd_T44 l0 x8_3).f2⟩ : S44) [.string ((rd_T44 l0 x8_3).f0), .string ((rd_T44 l0 x8_3).f1), .bool ((rd_T44 l0 x8_3).f2)] (fun _ => True) (fun _ => False) rfl rfl ?aP (fun _ hk => hk.elim) ?aF ?aO ?aB ?aS ?aL ?_; (case aP => exact k44_mkM _ _ _ (⟨(rd_T44 l0 x8_3).f0, (rd_T44 l0 x8_3).f1, (rd_T44 l0 x8_3).f2⟩ : S44)); (case aB => exact (by repeat (first | (with_reducible first | exact HB.out | apply below_alloc | apply pw_below_drewN | apply below_drew1) | exact HB.out))); (case aF => exact (fun _ _ => trivial)); (case aO => exact (by (with_reducible repeat (first | apply Kd.R_alloc | apply Kd.R_drewN | apply Kd.R_drew)); exact HO_7.out)); (case aS => exact (below_size (by repeat (first | (with_reducible first | exact HB.out | apply below_alloc | apply pw_below_drewN | apply below_drew1) | exact HB.out)))); (case aL => have := LMc12.out; omega); intro v118 w13 ho hb hg hat; rw [← Ny117.out] at ho; have n0_ := Aside0.mk (Kd.S_after (ok := (fun _ => True)) (by (with_reducible repeat (first | apply Kd.S_alloc | apply Kd.S_drewN | apply Kd.S_drew)); exact Kd.S_mono HO_5.out (fun _ hk => ⟨trivial, hk⟩)) hg hat); have n1_ := Aside0.mk (hb); have n2_ := Aside0.mk (ho); clear HO_5; clear HB; clear HO_7; have HO_5 := n0_; have HB := n1_; have HO119 := n2_; clear n0_ n1_ n2_; clear ho hb hg hat))
                            go_roundg k3
                            case measure => have := HJ2.out; have := HK2.out; have := HK3.out; omega
                            case rel => exact ⟨(y117), (wrap64 (x8_3 + 1)), (by first | rfl | (simp; done) | (simp [*]; done)), H', ⟨by have := HJ2.out; have := HK2.out; have := HK3.out; omega⟩, ⟨by (with_reducible repeat (first | apply Kd.S_alloc | apply Kd.S_drewN | apply Kd.S_drew)); exact Kd.S_mono HO_5.out (fun _ hk => hk.2)⟩, ⟨by (with_reducible repeat (first | apply Kd.R_alloc | apply Kd.R_drewN | apply Kd.R_drew)); exact HO119.out⟩, ⟨by repeat (first | (with_reducible first | exact HB.out | apply below_alloc | apply pw_below_drewN | apply below_drew1) | exact HB.out)⟩⟩
                          · rw [if_neg c12] at H
                            exact absurd H (by simp)
                        · rw [if_neg c11] at H
                          have c11b0 : (t114 == x6_2) = false := beq_eq_false_iff_ne.mpr c11
                          have c11b1 : (t114 != x6_2) = true := bne_iff_ne.mpr c11
                          have H' := Aside0.mk H
                          clear H
                          have p113 : 0 ≤ (x8_3 : Int) := of_decide_eq_true (by first | (with_reducible assumption) | assumption)
                          have q113 : x8_3 < (l0.length : Int) := of_decide_eq_true (by first | (with_reducible assumption) | assumption)
                          obtain ⟨ad113, e113, hx113_0, hx113_1, hx113_2⟩ := at_T44 HR0.out x8_3 p113 q113
                          cases e113
                          replace hx113_0 := (HB.out.cell (World.block_lt_of_cell? w _ hx113_0)).trans hx113_0
                          replace hx113_1 := (HB.out.cell (World.block_lt_of_cell? w _ hx113_1)).trans hx113_1
                          replace hx113_2 := (HB.out.cell (World.block_lt_of_cell? w _ hx113_2)).trans hx113_2
                          replace p113 := eq_true p113
                          replace q113 := eq_true q113
                          go_wp2_with (first | ((with_reducible refine gate_callee (f := 12) rfl ?_); refine goesL_ (some 35) rfl rfl Try.func12 (by kernel_rfl) rfl #[.string ((rd_T44 l0 x8_3).f0), .int .i64 a1] rfl (by (try simp only [List.map_toArray, List.map_cons, List.map_nil]); first | done | rfl | (simp only [List.length_drop, List.length_take]; rfl)) ?_; (with_reducible refine (dovecoteref13_Shard.calls ((rd_T44 l0 x8_3).f0) a1 t114 t115 _ A9.out).mono ?_); rintro e w' ⟨rfl, ⟨nd, rfl⟩⟩; refine ⟨_, rfl, ?_⟩))
                          go_roundg k3
                          case measure => have := HJ2.out; have := HK2.out; have := HK3.out; omega
                          case rel => exact ⟨(x7_3), (wrap64 (x8_3 + 1)), (by first | rfl | (simp; done) | (simp [*]; done)), H', ⟨by have := HJ2.out; have := HK2.out; have := HK3.out; omega⟩, ⟨by (with_reducible repeat (first | apply Kd.S_alloc | apply Kd.S_drewN | apply Kd.S_drew)); exact HO_5.out⟩, ⟨by (with_reducible repeat (first | apply Kd.R_alloc | apply Kd.R_drewN | apply Kd.R_drew)); exact HO_7.out⟩, ⟨by repeat (first | (with_reducible first | exact HB.out | apply below_alloc | apply pw_below_drewN | apply below_drew1) | exact HB.out)⟩⟩
                      · rw [if_neg c10] at H
                        have c10b0 : (t115 == 0) = false := beq_eq_false_iff_ne.mpr c10
                        have c10b1 : (t115 != 0) = true := bne_iff_ne.mpr c10
                        have H' := Aside0.mk H
                        clear H
                        have p113 : 0 ≤ (x8_3 : Int) := of_decide_eq_true (by first | (with_reducible assumption) | assumption)
                        have q113 : x8_3 < (l0.length : Int) := of_decide_eq_true (by first | (with_reducible assumption) | assumption)
                        obtain ⟨ad113, e113, hx113_0, hx113_1, hx113_2⟩ := at_T44 HR0.out x8_3 p113 q113
                        cases e113
                        replace hx113_0 := (HB.out.cell (World.block_lt_of_cell? w _ hx113_0)).trans hx113_0
                        replace hx113_1 := (HB.out.cell (World.block_lt_of_cell? w _ hx113_1)).trans hx113_1
                        replace hx113_2 := (HB.out.cell (World.block_lt_of_cell? w _ hx113_2)).trans hx113_2
                        replace p113 := eq_true p113
                        replace q113 := eq_true q113
                        go_wp2_with (first | ((with_reducible refine gate_callee (f := 12) rfl ?_); refine goesL_ (some 35) rfl rfl Try.func12 (by kernel_rfl) rfl #[.string ((rd_T44 l0 x8_3).f0), .int .i64 a1] rfl (by (try simp only [List.map_toArray, List.map_cons, List.map_nil]); first | done | rfl | (simp only [List.length_drop, List.length_take]; rfl)) ?_; (with_reducible refine (dovecoteref13_Shard.calls ((rd_T44 l0 x8_3).f0) a1 t114 t115 _ A9.out).mono ?_); rintro e w' ⟨rfl, ⟨nd, rfl⟩⟩; refine ⟨_, rfl, ?_⟩))
                        go_roundg k3
                        case measure => have := HJ2.out; have := HK2.out; have := HK3.out; omega
                        case rel => exact ⟨(x7_3), (wrap64 (x8_3 + 1)), (by first | rfl | (simp; done) | (simp [*]; done)), H', ⟨by have := HJ2.out; have := HK2.out; have := HK3.out; omega⟩, ⟨by (with_reducible repeat (first | apply Kd.S_alloc | apply Kd.S_drewN | apply Kd.S_drew)); exact HO_5.out⟩, ⟨by (with_reducible repeat (first | apply Kd.R_alloc | apply Kd.R_drewN | apply Kd.R_drew)); exact HO_7.out⟩, ⟨by repeat (first | (with_reducible first | exact HB.out | apply below_alloc | apply pw_below_drewN | apply below_drew1) | exact HB.out)⟩⟩
                    · rw [if_neg c8] at H
                      exact absurd H (by simp)
                  · rw [if_neg c7] at H
                    have c7b0 : decide (x8_3 < (l0.length : Int)) = false := decide_eq_false c7
                    clear c7
                    by_cases c14 : x5_2.length < 5864062014805
                    · rw [if_pos c14] at H
                      have LMc14 := Aside0.mk c14
                      clear c14
                      obtain ⟨y120, hy120⟩ : ∃ y_ : List (List (S44)), y_ = (x5_2 ++ [x7_3]) := ⟨_, rfl⟩
                      replace H : (dovecoteref13_Split.l0 k3 l0 a1 y120 (wrap64 (x6_2 + 1))) = some r := by first | (rw [hy120]; with_reducible exact H) | (have H2_ := (Option.bind_some _ _).symm.trans H; rw [hy120]; with_reducible exact H2_) | (have H2_ := (Option.bind_some _ _).symm.trans H; with_reducible exact H2_) | with_reducible exact H | (rw [hy120]; exact H) | exact H
                      have Ny120 := Aside0.mk hy120
                      clear hy120
                      have H' := Aside0.mk H
                      clear H
                      obtain ⟨Ao16, co16, eo16⟩ := Kd.R_slice HO_7.out
                      subst eo16
                      go_wp2_with (first | ((with_reducible refine gate_builtin (b := .append) (xs := #[.tmp 52, .tmp 54]) rfl ?_); at_builtin; refine Kd.S_append (Kd.slice 44 k44) (w0 := w) w.heap.size rfl (.tmp 52) (.tmp 54) 41 40 (.slice none 0 0) 24 rfl Try.underlying41 info40 rfl (by decide) (by omega) u5 x5_2 x7_3 [.slice Ao16 x7_3.length co16] (fun _ => True) (fun k_ => some k_ = (.slice Ao16 x7_3.length co16 : Value).ownBlock) rfl rfl ?aP (fun k_ hk_ => ((Kd.R_mono (ok' := fun k_ => ((fun _ => True)) k_ ∧ some k_ ≠ (u5 : Value).ownBlock) (Kd.R_apart' (HO_7.out) (Kd.S_typed HO_5.out) (by decide)) (fun k_ hk => ⟨trivial, hk.2⟩))).1 k_ hk_.symm) ?aF ?aO ?aB ?aS ?aL ?_; (case aP => exact Kd.M_row (Kd.R_mono (Kd.R_tight rfl (Kd.R_mono (ok' := fun k_ => ((fun _ => True)) k_ ∧ some k_ ≠ (u5 : Value).ownBlock) (Kd.R_apart' (HO_7.out) (Kd.S_typed HO_5.out) (by decide)) (fun k_ hk => ⟨trivial, hk.2⟩))) (fun _ h_ => h_))); (case aB => exact (by repeat (first | (with_reducible first | exact HB.out | apply below_alloc | apply pw_below_drewN | apply below_drew1) | exact HB.out))); (case aF => exact (fun _ _ => trivial)); (case aO => exact (by (with_reducible repeat (first | apply Kd.S_alloc | apply Kd.S_drewN | apply Kd.S_drew)); exact Kd.S_mono HO_5.out (fun k_ hk => ⟨trivial, fun e_ => hk e_⟩))); (case aS => exact (below_size (by repeat (first | (with_reducible first | exact HB.out | apply below_alloc | apply pw_below_drewN | apply below_drew1) | exact HB.out)))); (case aL => have := LMc14.out; omega); intro v121 w15 ho hb hg hat; rw [← Ny120.out] at ho; have n0_ := Aside0.mk (hb); have n1_ := Aside0.mk (ho); clear HB; clear HO_5; clear HO_7; have HB := n0_; have HO122 := n1_; clear n0_ n1_; clear ho hb hg hat))
                      go_roundg k3
                      case measure => have := HJ2.out; have := HK2.out; have := HK3.out; omega
                      case rel => exact ⟨(y120), (wrap64 (x6_2 + 1)), (by first | rfl | (simp; done) | (simp [*]; done)), H', ⟨by have := HJ2.out; have := HK2.out; have := HK3.out; omega⟩, ⟨by (with_reducible repeat (first | apply Kd.S_alloc | apply Kd.S_drewN | apply Kd.S_drew)); exact HO122.out⟩, ⟨by repeat (first | (with_reducible first | exact HB.out | apply below_alloc | apply pw_below_drewN | apply below_drew1) | exact HB.out)⟩⟩
                    · rw [if_neg c14] at H
                      exact absurd H (by simp)
            · rw [if_neg c6] at H
              have c6b0 : decide (x6_2 < a1) = false := decide_eq_false c6
              clear c6
              obtain rfl := Option.some.inj H
              go_wp2
              go_ret
              exact ⟨_, by first | rfl | (simp [errW_none, errW_some] <;> rfl) | (simp [*, errW_none, errW_some] <;> rfl), by (with_reducible repeat (first | apply Kd.S_alloc | apply Kd.S_drewN | apply Kd.S_drew)); exact HO_5.out, by repeat (first | (with_reducible first | exact HB.out | apply below_alloc | apply pw_below_drewN | apply below_drew1) | exact HB.out)⟩

end Go.Proofs.Ytbodaohbmekekaa.PPlaceSplits

/- The walk of PackWrites: what is written is the document's, and is read as it was. Condition: what the argument's type demands. -/
import Derived.Test.YtbmodiomoogffaaRe
import Derived.Test.YtbmodiomoogffaaAw
import Derived.Test.YtbmodiomoogffaaOf
import Derived.OpenShut
set_option linter.unusedVariables false
set_option linter.unusedSimpArgs false
namespace Go.Proofs.Ytbmodiomoogffaa
open Go.RowKit Go.Deep Go.Proofs.YtbmodiomoogffaaW.PrintWords PRd PPackWrites

/-- A form's bytes. -/
def encForm (x : S53) : ByteArray :=
  if x.f0 = 0 then encB x.f1 else if x.f0 = 1 then encB x.f2.size ++ x.f2 else if x.f0 = 2 then encF (decide (x.f1 > 9)) else if x.f0 = 3 then encB x.f3.f0 ++ encB x.f3.f1 else ByteArray.empty
/-- The forms' bytes. -/
def encForms : List S53 → ByteArray
  | [] => ByteArray.empty
  | x :: l => encForm x ++ encForms l
def FormOk (x : S53) : Prop := (-9223372036854775808 ≤ x.f0 ∧ x.f0 ≤ 9223372036854775807) ∧ (0 ≤ x.f1 ∧ x.f1 ≤ 18446744073709551615) ∧ x.f2.size ≤ 9223372036854775807 ∧ (0 ≤ x.f3.f0 ∧ x.f3.f0 ≤ 18446744073709551615) ∧ (0 ≤ x.f3.f1 ∧ x.f3.f1 ≤ 4294967295)

theorem encForms_snoc (l : List S53) (x : S53) : encForms (l ++ [x]) = encForms l ++ encForm x := by
  induction l with
  | nil => show encForm x ++ ByteArray.empty = ByteArray.empty ++ encForm x; rw [ByteArray.append_empty, ByteArray.empty_append]
  | cons y l ih => show encForm y ++ encForms (l ++ [x]) = encForm y ++ encForms l ++ encForm x; rw [ih, ByteArray.append_assoc]
theorem encForms_take (l : List S53) (i : Nat) (h : i < l.length) : encForms (l.take (i + 1)) = encForms (l.take i) ++ encForm l[i] := by
  rw [List.take_succ_eq_append_getElem h, encForms_snoc]
theorem encForm_size (x : S53) (h : FormOk x) (ht : x.f2.size ≤ 5000) : (encForm x).size ≤ 5009 := by
  obtain ⟨_, h1, h2, h3, h4⟩ := h
  have a1 := encB_size h1.2
  have a2 := encB_size (n := (x.f2.size : Int)) (by omega)
  have a3 := encB_size h3.2
  have a4 := encB_size (n := x.f3.f1) (by omega)
  have a5 := encF_size (decide (x.f1 > 9))
  unfold encForm
  split
  · omega
  · split
    · rw [ByteArray.size_append]; omega
    · split
      · omega
      · split
        · rw [ByteArray.size_append]; omega
        · exact Nat.zero_le _
theorem encForms_sizeall (l : List S53) (h : ∀ x ∈ l, FormOk x ∧ x.f2.size ≤ 5000) : (encForms l).size ≤ 5009 * l.length := by
  induction l with
  | nil => exact Nat.zero_le _
  | cons x l ih =>
    have h1 := encForm_size x (h x (List.mem_cons_self ..)).1 (h x (List.mem_cons_self ..)).2
    have h2 := ih (fun y hy => h y (List.mem_cons_of_mem _ hy))
    show (encForm x ++ encForms l).size ≤ _
    rw [ByteArray.size_append, List.length_cons]
    omega
set_option maxRecDepth 100000 in
set_option maxHeartbeats 8000000 in
theorem writes_calls (A : Option Addr) (cap : Nat) (l : List S53) (hlc : l.length ≤ cap) (hf : ∀ x ∈ l, FormOk x) (w : World) (hC : k53.C w A l.length l) :
    Calls Try.prog 6 #[.slice A l.length cap] w fun e w' => e = .returned (.bool true) ∧ Below w.heap.size w w' := by
  have HA := Lib.hid (awake_calls w w (Below.refl _ _))
  have HC := Lib.hid hC
  clear hC
  go_enter Try.func6, Try.ntmps6
  go_wp2_with fail
  refine HA.out.mono ?_
  rintro e w1 ⟨rfl, hB⟩
  have HB1 := Lib.hid hB
  clear hB HA
  rcases (show 200 < l.length ∨ l.length ≤ 200 by omega) with hl | hl
  · go_wp2_with fail
    go_ret
    exact ⟨rfl, HB1.out⟩
  · have HW1 := Lib.hid (IsS27.made w w1 HB1.out.size)
    have HB2 := Lib.hid (below_alloc' HB1.out (.cells #[.slice none 0 0] 27))
    have hge := HB1.out.size
    go_wp2_with fail
    generalize w1.heap.size = g at *
    generalize w1.alloc (.cells #[.slice none 0 0] 27) = w2 at *
    clear HB1 hge
    have Hf := Lib.hid hf
    clear hf
    go_loopg [4, 19] (l.length + 1) (fun gk v4 v19 wr => ∃ (i : Nat), i ≤ l.length ∧ v4 = .string (encForms (l.take i)) ∧ v19 = .int .i64 (i : Int) ∧ Aside0 (i + gk = l.length + 1) ∧ Aside0 (IsS27 w wr g (encForms (l.take i)) ∧ Below w.heap.size w wr ∧ (encForms (l.take i)).size ≤ 5009 * i ∧ ∀ x ∈ l.take i, x.f2.size ≤ 5000 ∧ x.f3.f0 ≤ 281474976710656 ∧ x.f3.f1 ≤ 4095))
    case atStart => exact ⟨0, Nat.zero_le _, rfl, rfl, ⟨by omega⟩, ⟨HW1.out, HB2.out, Nat.zero_le _, fun x hx => by simp at hx⟩⟩
    case round =>
      obtain ⟨i, hi, rfl, rfl, ⟨hg⟩, ⟨hW, hB, hs, hall⟩⟩ := hrel
      have HW := Lib.hid hW
      have HB := Lib.hid hB
      have HAll := Lib.hid hall
      have HG := Lib.hid hg
      clear hW hB hall hg
      rcases (show i < l.length ∨ i = l.length by omega) with hlt | hlt
      · obtain ⟨ad, rfl, k0, k1, k2, k3, k4⟩ := at_T53 (Kd.C_below HC.out HB.out) (i : Int) (by omega) (by omega)
        have hx : rd_T53 l (i : Int) = l[i] := by unfold rd_T53; rw [List.getD_eq_getElem?_getD, Int.toNat_natCast, List.getElem?_eq_getElem hlt]; rfl
        rw [hx] at k0 k1 k2 k3 k4
        obtain ⟨x, hxx⟩ : ∃ x, x = l[i] := ⟨_, rfl⟩
        have hok : FormOk x := by rw [hxx]; exact Hf.out _ (List.getElem_mem hlt)
        have HX := Lib.hid hxx
        rw [← hxx] at k0 k1 k2 k3 k4
        simp only [Int.toNat_natCast] at k0 k1 k2 k3 k4
        clear hx hxx
        obtain ⟨kd, n, tx, ⟨p, q⟩⟩ := x
        obtain ⟨o0, o1, o2, o3, o4⟩ := hok
        dsimp only at *
        rcases (show (5000 < tx.size ∨ 281474976710656 < p ∨ 4095 < q) ∨ ¬ (5000 < tx.size ∨ 281474976710656 < p ∨ 4095 < q) by omega) with hgd | hgd
        · clear HX
          have HB3 := Lib.hid (below_alloc' HB.out (.cells #[.int .i64 kd, .int .u64 n, .string tx, .int .u64 p, .int .u32 q] 53))
          go_wp2_with fail
          all_goals go_ret
          all_goals exact ⟨rfl, HB3.out⟩
        · have g1 : tx.size ≤ 5000 := by omega
          have g2 : p ≤ 281474976710656 := by omega
          have g3 : q ≤ 4095 := by omega
          clear hgd
          have HE := Lib.hid (show encForms (l.take (i + 1)) = encForms (l.take i) ++ encForm ⟨kd, n, tx, ⟨p, q⟩⟩ from by rw [HX.out]; exact encForms_take l i hlt)
          have hfs := encForm_size ⟨kd, n, tx, ⟨p, q⟩⟩ ⟨o0, o1, o2, o3, o4⟩ g1
          have Hrel : Hid (∀ (w5 : World) (y : ByteArray), y = encForm ⟨kd, n, tx, ⟨p, q⟩⟩ → IsS27 w w5 g (encForms (l.take i) ++ y) → Below w.heap.size w w5 →
              IsS27 w w5 g (encForms (l.take (i + 1))) ∧ Below w.heap.size w w5 ∧ (encForms (l.take (i + 1))).size ≤ 5009 * (i + 1) ∧ ∀ x ∈ l.take (i + 1), x.f2.size ≤ 5000 ∧ x.f3.f0 ≤ 281474976710656 ∧ x.f3.f1 ≤ 4095) := by
            intro w5 y hy h1 h2
            rw [HE.out, ← hy]
            refine ⟨h1, h2, by rw [ByteArray.size_append, hy]; omega, fun z hz => ?_⟩
            rw [List.take_succ_eq_append_getElem hlt] at hz
            rcases List.mem_append.1 hz with hz | hz
            · exact HAll.out z hz
            · rw [List.mem_singleton.1 hz, ← HX.out]; exact ⟨g1, g2, g3⟩
          have hu5 : (encForms (l.take i)).size ≤ 1000000 := by omega
          have HRS : Hid (l.length ≤ 200) := hl
          clear hfs HX HAll
          rcases (show kd = 0 ∨ kd = 1 ∨ kd = 2 ∨ kd = 3 ∨ (kd ≠ 0 ∧ kd ≠ 1 ∧ kd ≠ 2 ∧ kd ≠ 3) by omega) with hk | hk | hk | hk | hk
          · subst hk
            have HW3 := Lib.hid (HW.out.alloc (.cells #[.int .i64 0, .int .u64 n, .string tx, .int .u64 p, .int .u32 q] 53))
            have HB3 := Lib.hid (below_alloc' HB.out (.cells #[.int .i64 0, .int .u64 n, .string tx, .int .u64 p, .int .u32 q] 53))
            have hX3 : (wr.alloc (.cells #[.int .i64 0, .int .u64 n, .string tx, .int .u64 p, .int .u32 q] 53)).heap[wr.heap.size]? = some (.cells #[.int .i64 0, .int .u64 n, .string tx, .int .u64 p, .int .u32 q] 53 (0, 0)) := heap_alloc_new wr _
            have HX3 := Lib.hid hX3
            have HEn := Lib.hid (show encB n = encForm ⟨0, n, tx, ⟨p, q⟩⟩ from by unfold encForm; simp)
            have hz := encB_size o1.2
            obtain ⟨u, hu⟩ : ∃ u, u = encForms (l.take i) := ⟨_, rfl⟩
            rw [← hu] at HW3 HE Hrel hu5 ⊢
            have HU := Lib.hid hu
            clear hX3 HW HB hu hs
            go_wp2_with fail
            generalize wr.heap.size = xb at *
            clear k0 k1 k2 k3 k4
            refine (wnum w _ g _ n o1.1 o1.2 HW3.out HB3.out (by omega)).mono ?_
            rintro e w4 ⟨rfl, hW, hB, hk⟩
            have hX4 := blk_keepW hk HW3.out HX3.out (by decide) (by decide)
            have HW4 := Lib.hid hW
            have HB4 := Lib.hid hB
            have cx0 : w4.cell? ⟨xb, 0, none⟩ = some (.int .i64 0) := (blk_cell hX4 0).trans rfl
            have fx0 := blk_frozen hX4 0
            have cx1 : w4.cell? ⟨xb, 1, none⟩ = some (.int .u64 n) := (blk_cell hX4 1).trans rfl
            have fx1 := blk_frozen hX4 1
            have cx2 : w4.cell? ⟨xb, 2, none⟩ = some (.string tx) := (blk_cell hX4 2).trans rfl
            have fx2 := blk_frozen hX4 2
            have cx3 : w4.cell? ⟨xb, 3, none⟩ = some (.int .u64 p) := (blk_cell hX4 3).trans rfl
            have fx3 := blk_frozen hX4 3
            have cx4 : w4.cell? ⟨xb, 4, none⟩ = some (.int .u32 q) := (blk_cell hX4 4).trans rfl
            have fx4 := blk_frozen hX4 4
            clear hW hB hk hX4 HW3 HB3 HX3
            go_wp2_with fail
            clear cx0 cx1 cx2 cx3 cx4 fx0 fx1 fx2 fx3 fx4
            refine (ref_number n o1.1 o1.2 _).mono ?_
            rintro e w5 ⟨rfl, hB⟩
            have HR5 := Lib.hid (Hrel.out w5 _ HEn.out (by first | exact HW4.out.below hB | (have h := HW4.out.below hB; rw [ByteArray.append_assoc] at h; exact h)) (below_step HB4.out hB))
            have HEE := Lib.hid (show encForms (l.take (i + 1)) = u ++ (encB n) from by rw [HE.out, HEn.out])
            clear hB HW4 HB4 Hrel HE HEn
            have hsz5 : (encB n).size ≤ 6000 := by omega
            generalize encB n = v at *
            go_wp2
            go_roundg (gk - 1)
            case measure => have := HG.out; omega
            case rel => exact ⟨i + 1, by omega, by rw [HEE.out], by go_num, ⟨by have := HG.out; omega⟩, ⟨HR5.out⟩⟩
          · subst hk
            have HW3 := Lib.hid (HW.out.alloc (.cells #[.int .i64 1, .int .u64 n, .string tx, .int .u64 p, .int .u32 q] 53))
            have HB3 := Lib.hid (below_alloc' HB.out (.cells #[.int .i64 1, .int .u64 n, .string tx, .int .u64 p, .int .u32 q] 53))
            have hX3 : (wr.alloc (.cells #[.int .i64 1, .int .u64 n, .string tx, .int .u64 p, .int .u32 q] 53)).heap[wr.heap.size]? = some (.cells #[.int .i64 1, .int .u64 n, .string tx, .int .u64 p, .int .u32 q] 53 (0, 0)) := heap_alloc_new wr _
            have HX3 := Lib.hid hX3
            have HEn := Lib.hid (show encB tx.size ++ tx = encForm ⟨1, n, tx, ⟨p, q⟩⟩ from by unfold encForm; simp)
            have hz := encB_size (n := (tx.size : Int)) (by omega)
            obtain ⟨u, hu⟩ : ∃ u, u = encForms (l.take i) := ⟨_, rfl⟩
            rw [← hu] at HW3 HE Hrel hu5 ⊢
            have HU := Lib.hid hu
            clear hX3 HW HB hu hs
            go_wp2_with fail
            generalize wr.heap.size = xb at *
            clear k0 k1 k2 k3 k4
            refine (wtext w _ g _ tx HW3.out HB3.out (by omega)).mono ?_
            rintro e w4 ⟨rfl, hW, hB, hk⟩
            have hX4 := blk_keepW hk HW3.out HX3.out (by decide) (by decide)
            have HW4 := Lib.hid hW
            have HB4 := Lib.hid hB
            have cx0 : w4.cell? ⟨xb, 0, none⟩ = some (.int .i64 1) := (blk_cell hX4 0).trans rfl
            have fx0 := blk_frozen hX4 0
            have cx1 : w4.cell? ⟨xb, 1, none⟩ = some (.int .u64 n) := (blk_cell hX4 1).trans rfl
            have fx1 := blk_frozen hX4 1
            have cx2 : w4.cell? ⟨xb, 2, none⟩ = some (.string tx) := (blk_cell hX4 2).trans rfl
            have fx2 := blk_frozen hX4 2
            have cx3 : w4.cell? ⟨xb, 3, none⟩ = some (.int .u64 p) := (blk_cell hX4 3).trans rfl
            have fx3 := blk_frozen hX4 3
            have cx4 : w4.cell? ⟨xb, 4, none⟩ = some (.int .u32 q) := (blk_cell hX4 4).trans rfl
            have fx4 := blk_frozen hX4 4
            clear hW hB hk hX4 HW3 HB3 HX3
            go_wp2_with fail
            clear cx0 cx1 cx2 cx3 cx4 fx0 fx1 fx2 fx3 fx4
            refine (ref_text tx (by omega) _).mono ?_
            rintro e w5 ⟨rfl, hB⟩
            have HR5 := Lib.hid (Hrel.out w5 _ HEn.out (by first | exact HW4.out.below hB | (have h := HW4.out.below hB; rw [ByteArray.append_assoc] at h; exact h)) (below_step HB4.out hB))
            have HEE := Lib.hid (show encForms (l.take (i + 1)) = u ++ (encB tx.size ++ tx) from by rw [HE.out, HEn.out])
            clear hB HW4 HB4 Hrel HE HEn
            have hsz5 : (encB tx.size ++ tx).size ≤ 6000 := by rw [ByteArray.size_append]; omega
            generalize encB tx.size ++ tx = v at *
            go_wp2
            go_roundg (gk - 1)
            case measure => have := HG.out; omega
            case rel => exact ⟨i + 1, by omega, by rw [HEE.out], by go_num, ⟨by have := HG.out; omega⟩, ⟨HR5.out⟩⟩
          · subst hk
            have HW3 := Lib.hid (HW.out.alloc (.cells #[.int .i64 2, .int .u64 n, .string tx, .int .u64 p, .int .u32 q] 53))
            have HB3 := Lib.hid (below_alloc' HB.out (.cells #[.int .i64 2, .int .u64 n, .string tx, .int .u64 p, .int .u32 q] 53))
            have hX3 : (wr.alloc (.cells #[.int .i64 2, .int .u64 n, .string tx, .int .u64 p, .int .u32 q] 53)).heap[wr.heap.size]? = some (.cells #[.int .i64 2, .int .u64 n, .string tx, .int .u64 p, .int .u32 q] 53 (0, 0)) := heap_alloc_new wr _
            have HX3 := Lib.hid hX3
            have HEn := Lib.hid (show encF (decide (n > 9)) = encForm ⟨2, n, tx, ⟨p, q⟩⟩ from by unfold encForm; simp)
            have hz := encF_size (decide (n > 9))
            obtain ⟨u, hu⟩ : ∃ u, u = encForms (l.take i) := ⟨_, rfl⟩
            rw [← hu] at HW3 HE Hrel hu5 ⊢
            have HU := Lib.hid hu
            clear hX3 HW HB hu hs
            go_wp2_with fail
            generalize wr.heap.size = xb at *
            clear k0 k1 k2 k3 k4
            refine (wflag w _ g _ (decide (n > 9)) HW3.out HB3.out (by omega)).mono ?_
            rintro e w4 ⟨rfl, hW, hB, hk⟩
            have hX4 := blk_keepW hk HW3.out HX3.out (by decide) (by decide)
            have HW4 := Lib.hid hW
            have HB4 := Lib.hid hB
            have cx0 : w4.cell? ⟨xb, 0, none⟩ = some (.int .i64 2) := (blk_cell hX4 0).trans rfl
            have fx0 := blk_frozen hX4 0
            have cx1 : w4.cell? ⟨xb, 1, none⟩ = some (.int .u64 n) := (blk_cell hX4 1).trans rfl
            have fx1 := blk_frozen hX4 1
            have cx2 : w4.cell? ⟨xb, 2, none⟩ = some (.string tx) := (blk_cell hX4 2).trans rfl
            have fx2 := blk_frozen hX4 2
            have cx3 : w4.cell? ⟨xb, 3, none⟩ = some (.int .u64 p) := (blk_cell hX4 3).trans rfl
            have fx3 := blk_frozen hX4 3
            have cx4 : w4.cell? ⟨xb, 4, none⟩ = some (.int .u32 q) := (blk_cell hX4 4).trans rfl
            have fx4 := blk_frozen hX4 4
            clear hW hB hk hX4 HW3 HB3 HX3
            go_wp2_with fail
            clear cx0 cx1 cx2 cx3 cx4 fx0 fx1 fx2 fx3 fx4
            refine (ref_flag (decide (n > 9)) _).mono ?_
            rintro e w5 ⟨rfl, hB⟩
            have HR5 := Lib.hid (Hrel.out w5 _ HEn.out (by first | exact HW4.out.below hB | (have h := HW4.out.below hB; rw [ByteArray.append_assoc] at h; exact h)) (below_step HB4.out hB))
            have HEE := Lib.hid (show encForms (l.take (i + 1)) = u ++ (encF (decide (n > 9))) from by rw [HE.out, HEn.out])
            clear hB HW4 HB4 Hrel HE HEn
            have hsz5 : (encF (decide (n > 9))).size ≤ 6000 := by omega
            generalize encF (decide (n > 9)) = v at *
            go_wp2
            go_roundg (gk - 1)
            case measure => have := HG.out; omega
            case rel => exact ⟨i + 1, by omega, by rw [HEE.out], by go_num, ⟨by have := HG.out; omega⟩, ⟨HR5.out⟩⟩
          · subst hk
            have HW3 := Lib.hid (HW.out.alloc (.cells #[.int .i64 3, .int .u64 n, .string tx, .int .u64 p, .int .u32 q] 53))
            have HB3 := Lib.hid (below_alloc' HB.out (.cells #[.int .i64 3, .int .u64 n, .string tx, .int .u64 p, .int .u32 q] 53))
            have hX3 : (wr.alloc (.cells #[.int .i64 3, .int .u64 n, .string tx, .int .u64 p, .int .u32 q] 53)).heap[wr.heap.size]? = some (.cells #[.int .i64 3, .int .u64 n, .string tx, .int .u64 p, .int .u32 q] 53 (0, 0)) := heap_alloc_new wr _
            have HX3 := Lib.hid hX3
            have HEn := Lib.hid (show encB p ++ encB q = encForm ⟨3, n, tx, ⟨p, q⟩⟩ from by unfold encForm; simp)
            have hz := encB_size o3.2
            have hz2 := encB_size (n := q) (by omega)
            obtain ⟨u, hu⟩ : ∃ u, u = encForms (l.take i) := ⟨_, rfl⟩
            rw [← hu] at HW3 HE Hrel hu5 ⊢
            have HU := Lib.hid hu
            clear hX3 HW HB hu hs
            go_wp2_with fail
            generalize wr.heap.size = xb at *
            clear k0 k1 k2 k3 k4
            refine (wstamp w _ g _ p q o3 o4 HW3.out HB3.out (by omega)).mono ?_
            rintro e w4 ⟨rfl, hW, hB, hk⟩
            have hX4 := blk_keepW hk HW3.out HX3.out (by decide) (by decide)
            have HW4 := Lib.hid hW
            have HB4 := Lib.hid hB
            have cx0 : w4.cell? ⟨xb, 0, none⟩ = some (.int .i64 3) := (blk_cell hX4 0).trans rfl
            have fx0 := blk_frozen hX4 0
            have cx1 : w4.cell? ⟨xb, 1, none⟩ = some (.int .u64 n) := (blk_cell hX4 1).trans rfl
            have fx1 := blk_frozen hX4 1
            have cx2 : w4.cell? ⟨xb, 2, none⟩ = some (.string tx) := (blk_cell hX4 2).trans rfl
            have fx2 := blk_frozen hX4 2
            have cx3 : w4.cell? ⟨xb, 3, none⟩ = some (.int .u64 p) := (blk_cell hX4 3).trans rfl
            have fx3 := blk_frozen hX4 3
            have cx4 : w4.cell? ⟨xb, 4, none⟩ = some (.int .u32 q) := (blk_cell hX4 4).trans rfl
            have fx4 := blk_frozen hX4 4
            clear hW hB hk hX4 HW3 HB3 HX3
            go_wp2_with fail
            clear cx0 cx1 cx2 cx3 cx4 fx0 fx1 fx2 fx3 fx4
            refine (ref_stamp p q o3 o4 _).mono ?_
            rintro e w5 ⟨rfl, hB⟩
            have HR5 := Lib.hid (Hrel.out w5 _ HEn.out (by first | exact HW4.out.below hB | (have h := HW4.out.below hB; rw [ByteArray.append_assoc] at h; exact h)) (below_step HB4.out hB))
            have HEE := Lib.hid (show encForms (l.take (i + 1)) = u ++ (encB p ++ encB q) from by rw [HE.out, HEn.out])
            clear hB HW4 HB4 Hrel HE HEn
            have hsz5 : (encB p ++ encB q).size ≤ 6000 := by rw [ByteArray.size_append]; omega
            generalize encB p ++ encB q = v at *
            go_wp2
            go_roundg (gk - 1)
            case measure => have := HG.out; omega
            case rel => exact ⟨i + 1, by omega, by rw [HEE.out], by go_num, ⟨by have := HG.out; omega⟩, ⟨HR5.out⟩⟩
          · obtain ⟨n0, n1, n2, n3⟩ := hk
            have HW3 := Lib.hid (HW.out.alloc (.cells #[.int .i64 kd, .int .u64 n, .string tx, .int .u64 p, .int .u32 q] 53))
            have HB3 := Lib.hid (below_alloc' HB.out (.cells #[.int .i64 kd, .int .u64 n, .string tx, .int .u64 p, .int .u32 q] 53))
            have hEn : ByteArray.empty = encForm ⟨kd, n, tx, ⟨p, q⟩⟩ := by unfold encForm; simp [n0, n1, n2, n3]
            have HR5 := Lib.hid (Hrel.out _ _ hEn (by rw [ByteArray.append_empty]; exact HW3.out) HB3.out)
            have HEE := Lib.hid (show encForms (l.take (i + 1)) = encForms (l.take i) from by rw [HE.out, ← hEn, ByteArray.append_empty])
            clear hEn Hrel HE HW HB HW3 HB3
            go_wp2
            go_roundg (gk - 1)
            case measure => have := HG.out; omega
            case rel => exact ⟨i + 1, by omega, by rw [HEE.out], by go_num, ⟨by have := HG.out; omega⟩, ⟨HR5.out⟩⟩
      · subst hlt
        have hls : Hid (l.take l.length = l) := List.take_length
        rw [hls.out] at HW HAll hs ⊢
        clear HW1 HB2 HG hi
        go_wp2_with fail
        refine (wbytes w _ g _ HW.out HB.out).mono ?_
        rintro e w3 ⟨rfl, hW, hB, hk⟩
        have HB3 := Lib.hid hB
        clear hW hB hk HW HB
        generalize hS : encForms l = S at *
        have HS := Lib.hid hS
        clear hS
        go_wp2_with fail
        refine (rnew _ HB3.out).mono ?_
        rintro e w4 ⟨r, rfl, hR, hB, hb, hr⟩
        have HR4 := Lib.hid hR
        have HB4 := Lib.hid hB
        clear hR hB hb hr HB3
        go_wp2_with fail
        have hCall : Hid (∀ x ∈ l, x.f2.size ≤ 5000 ∧ x.f3.f0 ≤ 281474976710656 ∧ x.f3.f1 ≤ 4095) := HAll.out
        rw [← HS.out] at HR4
        clear hs HAll
        go_loopg [96] (l.length + 1) (fun gk v96 wr => ∃ (i : Nat), i ≤ l.length ∧ v96 = .int .i64 (i : Int) ∧ Aside0 (i + gk = l.length + 1) ∧ Aside0 (IsS63 w wr r (encForms (l.drop i)) 0 ∧ Below w.heap.size w wr))
        case atStart => exact ⟨0, Nat.zero_le _, rfl, ⟨by omega⟩, ⟨HR4.out, HB4.out⟩⟩
        case round =>
          obtain ⟨i, hi, rfl, ⟨hg⟩, ⟨hR, hB⟩⟩ := hrel
          have HR := Lib.hid hR
          have HB := Lib.hid hB
          have HG := Lib.hid hg
          clear hR hB hg HR4 HB4
          rcases (show i < l.length ∨ i = l.length by omega) with hlt | hlt
          · obtain ⟨ad, rfl, k0, k1, k2, k3, k4⟩ := at_T53 (Kd.C_below HC.out HB.out) (i : Int) (by omega) (by omega)
            have hx : rd_T53 l (i : Int) = l[i] := by unfold rd_T53; rw [List.getD_eq_getElem?_getD, Int.toNat_natCast, List.getElem?_eq_getElem hlt]; rfl
            rw [hx] at k0 k1 k2 k3 k4
            have hdr : encForms (l.drop i) = encForm l[i] ++ encForms (l.drop (i + 1)) := by rw [List.drop_eq_getElem_cons hlt]; rfl
            obtain ⟨x, hxx⟩ : ∃ x, x = l[i] := ⟨_, rfl⟩
            have hok : FormOk x := by rw [hxx]; exact Hf.out _ (List.getElem_mem hlt)
            have hgx := hCall.out x (by rw [hxx]; exact List.getElem_mem hlt)
            rw [← hxx] at k0 k1 k2 k3 k4 hdr
            simp only [Int.toNat_natCast] at k0 k1 k2 k3 k4
            have HDR := Lib.hid hdr
            clear hx hxx hdr
            obtain ⟨kd, n, tx, ⟨p, q⟩⟩ := x
            obtain ⟨o0, o1, o2, o3, o4⟩ := hok
            dsimp only at *
            obtain ⟨g1, g2, g3⟩ := hgx
            rcases (show kd = 0 ∨ kd = 1 ∨ kd = 2 ∨ kd = 3 ∨ (kd ≠ 0 ∧ kd ≠ 1 ∧ kd ≠ 2 ∧ kd ≠ 3) by omega) with hk | hk | hk | hk | hk
            · subst hk
              have HR3 := Lib.hid (IsS63.drew <| HR.out.alloc (.cells #[.int .i64 0, .int .u64 n, .string tx, .int .u64 p, .int .u32 q] 53))
              have HB3 := Lib.hid (below_drew1 <| below_alloc' HB.out (.cells #[.int .i64 0, .int .u64 n, .string tx, .int .u64 p, .int .u32 q] 53))
              have hX3 : (wr.alloc (.cells #[.int .i64 0, .int .u64 n, .string tx, .int .u64 p, .int .u32 q] 53)).heap[wr.heap.size]? = some (.cells #[.int .i64 0, .int .u64 n, .string tx, .int .u64 p, .int .u32 q] 53 (0, 0)) := heap_alloc_new wr _
              have cx1 : (wr.alloc (.cells #[.int .i64 0, .int .u64 n, .string tx, .int .u64 p, .int .u32 q] 53)).cell? ⟨wr.heap.size, 1, none⟩ = some (.int .u64 n) := (blk_cell hX3 1).trans rfl
              have EN := Lib.hid (show rdNum (encForms (l.drop i)) 0 n = (n, encForms (l.drop (i + 1)), 0) from by rw [HDR.out, show encForm ⟨0, n, tx, ⟨p, q⟩⟩ = encB n from by unfold encForm; simp]; exact rdNum_enc _ _ _ o1.1 o1.2 (Int.le_refl _))
              have HX3 := Lib.hid hX3
              clear hX3 HR HB HDR
              go_wp2_with fail
              go_region_held3 (fun w' => w'.cell? ⟨wr.heap.size, 1, none⟩ = some (.int .u64 n)) (go_keep) (first | (go_at_call 20; refine (rnumber w _ r _ 0 n o1.1 o1.2 HR3.out HB3.out).mono ?_; rw [EN.out]; rintro e w5 ⟨rfl, hR, hB, hk⟩; have cx51 : w5.cell? ⟨wr.heap.size, 1, none⟩ = some (.int .u64 n) := (blk_cell (blk_keepR hk HR3.out HX3.out (by decide)) 1).trans rfl; have HR5 := Lib.hid hR; have HB5 := Lib.hid hB; clear hR hB hk))
              all_goals clear HR3 HB3 HX3 EN k0 k1 k2 k3 k4
              all_goals go_wp2
              all_goals go_roundg (gk - 1)
              case measure => have := HG.out; omega
              case rel => exact ⟨i + 1, by omega, by go_num, ⟨by have := HG.out; omega⟩, ⟨HR5.out, HB5.out⟩⟩
            · subst hk
              have HR3 := Lib.hid (IsS63.drew <| HR.out.alloc (.cells #[.int .i64 1, .int .u64 n, .string tx, .int .u64 p, .int .u32 q] 53))
              have HB3 := Lib.hid (below_drew1 <| below_alloc' HB.out (.cells #[.int .i64 1, .int .u64 n, .string tx, .int .u64 p, .int .u32 q] 53))
              have hX3 : (wr.alloc (.cells #[.int .i64 1, .int .u64 n, .string tx, .int .u64 p, .int .u32 q] 53)).heap[wr.heap.size]? = some (.cells #[.int .i64 1, .int .u64 n, .string tx, .int .u64 p, .int .u32 q] 53 (0, 0)) := heap_alloc_new wr _
              have cx2 : (wr.alloc (.cells #[.int .i64 1, .int .u64 n, .string tx, .int .u64 p, .int .u32 q] 53)).cell? ⟨wr.heap.size, 2, none⟩ = some (.string tx) := (blk_cell hX3 2).trans rfl
              have EN := Lib.hid (show rdText (encForms (l.drop i)) 0 tx.size tx.size = (tx, encForms (l.drop (i + 1)), 0) from by rw [HDR.out, show encForm ⟨1, n, tx, ⟨p, q⟩⟩ = encB tx.size ++ tx from by unfold encForm; simp]; exact rdText_enc _ _ _ _ o2 (Int.le_refl _) (Int.le_refl _))
              have HSZ := Lib.hid (show (encForms (l.drop i)).size ≤ 9223372036854775807 from by have h := encForms_sizeall (l.drop i) (fun x hx => ⟨Hf.out x (List.mem_of_mem_drop hx), (hCall.out x (List.mem_of_mem_drop hx)).1⟩); have h2 := List.length_drop (i := i) (l := l); omega)
              have HX3 := Lib.hid hX3
              clear hX3 HR HB HDR
              go_wp2_with fail
              go_region_held3 (fun w' => w'.cell? ⟨wr.heap.size, 2, none⟩ = some (.string tx)) (go_keep) (first | (go_at_call 16; refine (rtext tx.size tx.size HR3.out HB3.out HSZ.out (by omega) (by omega)).mono ?_; rw [EN.out]; rintro e w5 ⟨rfl, hR, hB, hk⟩; have cx52 : w5.cell? ⟨wr.heap.size, 2, none⟩ = some (.string tx) := (blk_cell (blk_keepR hk HR3.out HX3.out (by decide)) 2).trans rfl; have HR5 := Lib.hid hR; have HB5 := Lib.hid hB; clear hR hB hk))
              all_goals clear HR3 HB3 HX3 EN k0 k1 k2 k3 k4
              all_goals go_wp2
              all_goals go_roundg (gk - 1)
              case measure => have := HG.out; omega
              case rel => exact ⟨i + 1, by omega, by go_num, ⟨by have := HG.out; omega⟩, ⟨HR5.out, HB5.out⟩⟩
            · subst hk
              have HR3 := Lib.hid (IsS63.drew <| HR.out.alloc (.cells #[.int .i64 2, .int .u64 n, .string tx, .int .u64 p, .int .u32 q] 53))
              have HB3 := Lib.hid (below_drew1 <| below_alloc' HB.out (.cells #[.int .i64 2, .int .u64 n, .string tx, .int .u64 p, .int .u32 q] 53))
              have hX3 : (wr.alloc (.cells #[.int .i64 2, .int .u64 n, .string tx, .int .u64 p, .int .u32 q] 53)).heap[wr.heap.size]? = some (.cells #[.int .i64 2, .int .u64 n, .string tx, .int .u64 p, .int .u32 q] 53 (0, 0)) := heap_alloc_new wr _
              have cx1 : (wr.alloc (.cells #[.int .i64 2, .int .u64 n, .string tx, .int .u64 p, .int .u32 q] 53)).cell? ⟨wr.heap.size, 1, none⟩ = some (.int .u64 n) := (blk_cell hX3 1).trans rfl
              have EN := Lib.hid (show rdFlag (encForms (l.drop i)) 0 = (decide (n > 9), encForms (l.drop (i + 1)), 0) from by rw [HDR.out, show encForm ⟨2, n, tx, ⟨p, q⟩⟩ = encF (decide (n > 9)) from by unfold encForm; simp]; exact rdFlag_enc _ _)
              have HX3 := Lib.hid hX3
              clear hX3 HR HB HDR
              go_wp2_with fail
              go_region_held3 (fun w' => w'.cell? ⟨wr.heap.size, 1, none⟩ = some (.int .u64 n)) (go_keep) (first | (go_at_call 28; refine (rflag HR3.out HB3.out).mono ?_; rw [EN.out]; rintro e w5 ⟨rfl, hR, hB, hk⟩; have cx51 : w5.cell? ⟨wr.heap.size, 1, none⟩ = some (.int .u64 n) := (blk_cell (blk_keepR hk HR3.out HX3.out (by decide)) 1).trans rfl; have HR5 := Lib.hid hR; have HB5 := Lib.hid hB; clear hR hB hk))
              all_goals clear HR3 HB3 HX3 EN k0 k1 k2 k3 k4
              all_goals go_wp2
              all_goals go_roundg (gk - 1)
              case measure => have := HG.out; omega
              case rel => exact ⟨i + 1, by omega, by go_num, ⟨by have := HG.out; omega⟩, ⟨HR5.out, HB5.out⟩⟩
            · subst hk
              have HR3 := Lib.hid (IsS63.drew <| HR.out.alloc (.cells #[.int .i64 3, .int .u64 n, .string tx, .int .u64 p, .int .u32 q] 53))
              have HB3 := Lib.hid (below_drew1 <| below_alloc' HB.out (.cells #[.int .i64 3, .int .u64 n, .string tx, .int .u64 p, .int .u32 q] 53))
              have hX3 : (wr.alloc (.cells #[.int .i64 3, .int .u64 n, .string tx, .int .u64 p, .int .u32 q] 53)).heap[wr.heap.size]? = some (.cells #[.int .i64 3, .int .u64 n, .string tx, .int .u64 p, .int .u32 q] 53 (0, 0)) := heap_alloc_new wr _
              have cx3 : (wr.alloc (.cells #[.int .i64 3, .int .u64 n, .string tx, .int .u64 p, .int .u32 q] 53)).cell? ⟨wr.heap.size, 3, none⟩ = some (.int .u64 p) := (blk_cell hX3 3).trans rfl
              have cx4 : (wr.alloc (.cells #[.int .i64 3, .int .u64 n, .string tx, .int .u64 p, .int .u32 q] 53)).cell? ⟨wr.heap.size, 4, none⟩ = some (.int .u32 q) := (blk_cell hX3 4).trans rfl
              have EN := Lib.hid (show rdStamp (encForms (l.drop i)) 0 = (p, q, encForms (l.drop (i + 1)), 0) from by rw [HDR.out, show encForm ⟨3, n, tx, ⟨p, q⟩⟩ = encB p ++ encB q from by unfold encForm; simp]; exact rdStamp_enc _ _ _ o3.1 g2 o4.1 g3)
              have HX3 := Lib.hid hX3
              clear hX3 HR HB HDR
              go_wp2_with fail
              go_region_held3 (fun w' => w'.cell? ⟨wr.heap.size, 3, none⟩ = some (.int .u64 p) ∧ w'.cell? ⟨wr.heap.size, 4, none⟩ = some (.int .u32 q)) (go_keep) (first | (go_at_call 21; refine (rstamp HR3.out HB3.out).mono ?_; rw [EN.out]; rintro e w5 ⟨rfl, hR, hB, hk⟩; have cx53 : w5.cell? ⟨wr.heap.size, 3, none⟩ = some (.int .u64 p) := (blk_cell (blk_keepR hk HR3.out HX3.out (by decide)) 3).trans rfl; have cx54 : w5.cell? ⟨wr.heap.size, 4, none⟩ = some (.int .u32 q) := (blk_cell (blk_keepR hk HR3.out HX3.out (by decide)) 4).trans rfl; have HR5 := Lib.hid hR; have HB5 := Lib.hid hB; clear hR hB hk))
              all_goals clear HR3 HB3 HX3 EN k0 k1 k2 k3 k4
              all_goals go_wp2
              all_goals go_roundg (gk - 1)
              case measure => have := HG.out; omega
              case rel => exact ⟨i + 1, by omega, by go_num, ⟨by have := HG.out; omega⟩, ⟨HR5.out, HB5.out⟩⟩
            · obtain ⟨n0, n1, n2, n3⟩ := hk
              have HR3 := Lib.hid (HR.out.alloc (.cells #[.int .i64 kd, .int .u64 n, .string tx, .int .u64 p, .int .u32 q] 53))
              have HB3 := Lib.hid (below_alloc' HB.out (.cells #[.int .i64 kd, .int .u64 n, .string tx, .int .u64 p, .int .u32 q] 53))
              have HEn := Lib.hid (show encForms (l.drop i) = encForms (l.drop (i + 1)) from by rw [HDR.out]; unfold encForm; simp [n0, n1, n2, n3])
              clear HR HB HDR
              go_wp2
              go_roundg (gk - 1)
              case measure => have := HG.out; omega
              case rel => exact ⟨i + 1, by omega, by go_num, ⟨by have := HG.out; omega⟩, ⟨by rw [← HEn.out]; exact HR3.out, HB3.out⟩⟩
          · subst hlt
            rw [List.drop_length] at HR
            go_wp2_with fail
            refine (rleft HR.out HB.out).mono ?_
            rintro e w5 ⟨rfl, hR, hB, hk⟩
            have HR5 := Lib.hid hR
            have HB5 := Lib.hid hB
            clear hR hB hk HR HB
            go_wp2_with fail
            refine (rend HR5.out HB5.out).mono ?_
            rintro e w6 ⟨rfl, hR, hB, hk⟩
            have HB6 := Lib.hid hB
            clear hR hB hk HR5 HB5
            go_wp2
            go_ret
            exact ⟨rfl, HB6.out⟩
theorem walk_PackWrites {H : Type} {enc : TypeId × Value → H} (W : World) (v0 : Value) (d0 : DataW H) (p0 : List MemPlace)
    (h0 : DataW.Trod enc Try.prog W 0 (fun _ => true) true 51 v0 d0 p0) {base : Nat} (u0 : Value.okWide Try.prog W .any base 51 v0) (z0 : ∀ n ∈ DataW.weights Try.prog 51 d0, n ≤ reachBytes) :
    Calls Try.prog 6 #[v0] W fun e w' => e = .returned (.bool true) ∧ Below W.heap.size W w' := by
  obtain ⟨a, len, cap, rfl⟩ := WideShapes.okWide_slice Try.underlying51 u0
  obtain ⟨fuel, hf⟩ := h0
  obtain ⟨A, c, l, hcs, hlc, hC, hQ⟩ := open_kd (k := k53) (Q := fun a d => Q53 a d) Try.underlying51 (by kernel_rfl) open_S53 hf
  simp only [Value.cells, List.cons.injEq, Value.slice.injEq, and_true] at hcs
  obtain ⟨rfl, rfl, rfl⟩ := hcs
  refine writes_calls a cap l hlc ?_ W hC
  intro x hx
  rcases hQ with ⟨_, rfl⟩ | ⟨ds, sp, _, hl, hq⟩
  · simp at hx
  · obtain ⟨i, hi, rfl⟩ := List.getElem_of_mem hx
    obtain ⟨_, q0, q1, q2, q3, q4⟩ := hq i hi (by omega)
    exact ⟨Go.bounds_i64 q0, Go.bounds_u64 q1, by simpa [maxLen] using q2, Go.bounds_u64 q3, Go.bounds_u32 q4⟩
end Go.Proofs.Ytbmodiomoogffaa

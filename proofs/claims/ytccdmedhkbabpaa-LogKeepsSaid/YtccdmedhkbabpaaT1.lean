/- Texts of this claim, one behind the other: what their heads say. Conditions: those that each theorem names. -/
import Derived.Test.YtccdmedhkbabpaaProg
import Derived.Below
import Derived.Deep.Draws
import Derived.Deep.AppendLies
import Derived.Maps.AppendAt
import Derived.OwnWalk
import Derived.Laws.BytesArg
import Derived.Laws.MakeOwn
import Derived.Laws.OwnMore
import Derived.Deep.OwnRows
import Derived.Tactics
import Derived.Lib.ConvBytes
import Derived.Laws.Slices
import Derived.WalkKit
import Derived.KernelRfl
import Derived.RowKit3
import Derived.Deep.LoopGhost
import Derived.Deep.QuietTactic
import Derived.BigQuiet
import Derived.WideLaws
import Derived.Deep.DeepCutAuto
import Derived.Deep.CutBlock
import Derived.Deep.RegionHeld3
import Derived.Laws.Rows
import Derived.Lib.AppendStr
import Derived.ArgAppend
import Derived.Laws.IdiomCopy
import Derived.OrdersHeld
import Derived.Laws.BitsLemmas
import Derived.RowKit
import Derived.Test.YtccdmedhkbabpaaWWords
import Derived.Test.YtccdmedhkbabpaaWLast
import Derived.Test.YtccdmedhkbabpaaWTab
import Derived.Test.YtccdmedhkbabpaaWQPut
import Derived.Test.YtccdmedhkbabpaaWApart
import Derived.Test.YtccdmedhkbabpaaWArr
import Derived.Test.YtccdmedhkbabpaaWZeros
import Derived.Test.YtccdmedhkbabpaaWFoot
import Derived.Test.YtccdmedhkbabpaaWKept
import Derived.Test.YtccdmedhkbabpaaWShare
import Derived.Test.YtccdmedhkbabpaaWN
import Derived.Test.YtccdmedhkbabpaaWRepsOne
import Derived.Test.YtccdmedhkbabpaaWGuard
import Derived.Test.YtccdmedhkbabpaaWNEv
import Derived.Test.YtccdmedhkbabpaaWMore
import Derived.Lib.Hide
import Derived.Test.YtccdmedhkbabpaaT0
set_option linter.unusedVariables false
set_option linter.unusedSimpArgs false
/- Contracts of Go functions and what each computes, as plain Lean functions: written by a program of this session over the kit's own print. Conditions: those that each theorem names. -/
namespace Go.Proofs.Ytccdmedhkbabpaa.PFr
open Go.Proofs.Ytccdmedhkbabpaa Go.Proofs.Ytccdmedhkbabpaa.PRd
open Go.RowKit Go.Proofs.YtccdmedhkbabpaaW.PrintWords Go.Proofs.YtccdmedhkbabpaaW.PrintLast Go.Proofs.YtccdmedhkbabpaaW.PrintMore
attribute [local go_sem] max2_int min2_int max_two min_two max_three min_three max_four min_four   -- for this text's walks alone



def errW : Option Int → Value
  | none => .nilIface
  | some c => .iface 0 (.int .i64 c)
theorem errW_none : errW none = .nilIface := rfl
theorem errW_some (c : Int) : errW (some c) = .iface 0 (.int .i64 c) := rfl

theorem info5 : (Try.prog.info? 5).map (fun i => (i.zero, i.size, i.bytes)) = some (some (.int .u8 0), 1, 1) := by kernel_rfl
-- the values' own types

end Go.Proofs.Ytccdmedhkbabpaa.PFr

/- Contracts of Go functions and what each computes, as plain Lean functions: written by a program of this session over the kit's own print. Conditions: those that each theorem names. -/
namespace Go.Proofs.Ytccdmedhkbabpaa.PFr
open Go.Proofs.Ytccdmedhkbabpaa Go.Proofs.Ytccdmedhkbabpaa.PRd
open Go.RowKit Go.Proofs.YtccdmedhkbabpaaW.PrintWords Go.Proofs.YtccdmedhkbabpaaW.PrintLast Go.Proofs.YtccdmedhkbabpaaW.PrintMore
attribute [local go_sem] max2_int min2_int max_two min_two max_three min_three max_four min_four   -- for this text's walks alone

-- NOT PRINTED: function 53 (pack_Writer_Bytes)

/-! ### bits_Len64: function 80 -/


-- NOT PRINTED: function 52 (pack_Writer_Number)

-- NOT PRINTED: function 81 (pack_Writer_Text)

/-! ### frame_body: function 57 -/
def frame_body.f (a0 : ByteArray) : Option ByteArray := if a0.size ≤ 140737488355000 then some (encT a0) else none
theorem frame_body.calls (a0 : ByteArray) (r : ByteArray) (w : World) (h : frame_body.f a0 = some r) :
    Calls Try.prog 57 #[.string a0] w fun e w' => e = .returned (.string r) ∧ Below w.heap.size w w' := by
  unfold frame_body.f at h
  split at h
  · obtain rfl := Option.some.inj h
    exact body_calls a0 (by assumption) w
  · cases h


/-! ### frame_four: function 58 -/
def frame_four.f (a0 : Int) : Option (ByteArray) := some (strOfNums (([(a0) % 256, (a0 / 256) % 256, (a0 / 65536) % 256, (a0 / 16777216) % 256] : List Int)))
set_option maxHeartbeats 8000000 in
set_option maxRecDepth 100000 in
theorem frame_four.calls (a0 : Int) (r : ByteArray) (w : World) (h : frame_four.f a0 = some r) :
    Calls Try.prog 58 #[.int .u32 a0] w fun e w' => e = .returned (.string r) ∧ Below w.heap.size w w' := by
  have HB := Aside0.mk (Below.refl w.heap.size w)
  have H : (some (strOfNums (([(a0) % 256, (a0 / 256) % 256, (a0 / 65536) % 256, (a0 / 16777216) % 256] : List Int)))) = some r := h
  clear h
  obtain ⟨y101, hy101⟩ : ∃ y_ : List Int, y_ = (([(a0) % 256, (a0 / 256) % 256, (a0 / 65536) % 256, (a0 / 16777216) % 256] : List Int)) := ⟨_, rfl⟩
  replace H : (some (strOfNums y101)) = some r := by first | (rw [hy101]; with_reducible exact H) | (have H2_ := (Option.bind_some _ _).symm.trans H; rw [hy101]; with_reducible exact H2_) | (have H2_ := (Option.bind_some _ _).symm.trans H; with_reducible exact H2_) | with_reducible exact H | (rw [hy101]; exact H) | exact H
  have Ny101 := Aside0.mk hy101
  clear hy101
  obtain rfl := Option.some.inj H
  go_enter Try.func58, Try.ntmps58
  go_wp2_with (first | ((with_reducible refine gate_dst (N := 14) rfl ?_); refine Kd.R_lit (Kd.int .u8) _ 5 ?hg (N := 14) ?hd (xs := ([(a0) % 256, (a0 / 256) % 256, (a0 / 65536) % 256, (a0 / 16777216) % 256] : List Int)) (inner := [.int .u8 ((a0) % 256), .int .u8 ((a0 / 256) % 256), .int .u8 ((a0 / 65536) % 256), .int .u8 ((a0 / 16777216) % 256)]) (ok := fun _ => True) (okp := fun _ => True) ?hr ?hp (fun _ hk => hk) trivial (Below.refl _ _) (Nat.le_refl _) (by simp) ?_; (case hd => rfl); (case hg => rfl); (case hr => first | (go_simp; done) | (go_simp; rfl)); (case hp => exact (Reps.one (show Kd.M (Kd.int .u8) _ _ _ ((a0) % 256) [.int .u8 ((a0) % 256)] from rfl) (Reps.one (show Kd.M (Kd.int .u8) _ _ _ ((a0 / 256) % 256) [.int .u8 ((a0 / 256) % 256)] from rfl) (Reps.one (show Kd.M (Kd.int .u8) _ _ _ ((a0 / 65536) % 256) [.int .u8 ((a0 / 65536) % 256)] from rfl) (Reps.one (show Kd.M (Kd.int .u8) _ _ _ ((a0 / 16777216) % 256) [.int .u8 ((a0 / 16777216) % 256)] from rfl) (Reps.none _ _)))))); intro v102 w2 ho3 hb hg_ hnew_; clear hg_ hnew_; (first | rw [← Ny101.out] at ho3 | (simp only [Int.reduceToNat] at ho3; rw [← Ny101.out] at ho3)); have n0_ := Aside0.mk (Kd.R_lower ho3 (below_size (by repeat (first | (with_reducible first | exact HB.out | apply below_alloc | apply pw_below_drewN | apply below_drew1) | exact HB.out)))); have n1_ := Aside0.mk (below_step (by repeat (first | (with_reducible first | exact HB.out | apply below_alloc | apply pw_below_drewN | apply below_drew1) | exact HB.out)) hb); clear HB; have HO103 := n0_; have HB := n1_; clear n0_ n1_; clear hb ho3; have hcv4 := own_string (P := Try.prog) Try.underlying82 Try.underlying5 Try.underlying9 (Kd.own_of_R HO103.out)))
  go_ret
  exact ⟨by first | rfl | (simp [errW_none, errW_some] <;> rfl) | (simp [*, errW_none, errW_some] <;> rfl), by repeat (first | (with_reducible first | exact HB.out | apply below_alloc | apply pw_below_drewN | apply below_drew1) | exact HB.out)⟩

/-! ### frame_Sum: function 59 -/
def frame_Sum.f (a0 : ByteArray) : Option Int := if a0.size ≤ 140737488355328 then some (sumN a0 : Int) else none
theorem frame_Sum.calls (a0 : ByteArray) (r : Int) (w : World) (h : frame_Sum.f a0 = some r) :
    Calls Try.prog 59 #[.string a0] w fun e w' => e = .returned (.int .u32 r) ∧ Below w.heap.size w w' := by
  unfold frame_Sum.f at h
  split at h
  · obtain rfl := Option.some.inj h
    exact sum_calls a0 (by omega) w
  · cases h


/-! ### frame_Wrap: function 32 -/
def frame_Wrap.f (a0 : ByteArray) : Option (ByteArray × Int) := if (a0.size : Int) > 16384 then (some ((⟨#[]⟩ : ByteArray), 3)) else ((frame_body.f a0).bind fun t104 => ((some (([215] : List Int) : List Int)).bind fun y105 => (if (strOfNums y105).size + t104.size ≤ 9223372036854775807 then ((frame_Sum.f t104).bind fun t108 => ((frame_four.f t108).bind fun t109 => (if ((strOfNums y105) ++ t104).size + t109.size ≤ 9223372036854775807 then (some (((strOfNums y105) ++ t104) ++ t109, 0)) else (none)))) else (none))))
def frame_Wrap.T4 : Bool × List (List Nat × List Nat) := (true, [([], []), ([0], [0]), ([], []), ([1, 2], [1, 2]), ([], []), ([4], [4]), ([5, 5], [5]), ([3, 6], [3, 6]), ([7, 6, 0, 1, 2, 3, 4, 5, 6, 7], [7]), ([8, 0, 1, 2, 3, 4, 5, 6, 7, 8], [])])
def frame_Wrap.B4 : List Nat := [0, 1, 0, 7, 0, 16, 48, 127, 255, 511]
theorem frame_Wrap.tab4 : rtab .any (opsOf Try.f32 4) = frame_Wrap.T4 := by kernel_rfl
theorem frame_Wrap.bits4 : waitsOk frame_Wrap.T4.2 frame_Wrap.B4 = true := by kernel_rfl
set_option maxHeartbeats 8000000 in
set_option maxRecDepth 100000 in
theorem frame_Wrap.calls (a0 : ByteArray) (r1 : ByteArray) (r2 : Int) (w : World) (h : frame_Wrap.f a0 = some (r1, r2)) :
    Calls Try.prog 32 #[.string a0] w fun e w' => e = .returned (.tuple #[.string r1, .int .i64 r2]) ∧ Below w.heap.size w w' := by
  have HB := Aside0.mk (Below.refl w.heap.size w)
  have H : (if (a0.size : Int) > 16384 then (some ((⟨#[]⟩ : ByteArray), 3)) else ((frame_body.f a0).bind fun t104 => ((some (([215] : List Int) : List Int)).bind fun y105 => (if (strOfNums y105).size + t104.size ≤ 9223372036854775807 then ((frame_Sum.f t104).bind fun t108 => ((frame_four.f t108).bind fun t109 => (if ((strOfNums y105) ++ t104).size + t109.size ≤ 9223372036854775807 then (some (((strOfNums y105) ++ t104) ++ t109, 0)) else (none)))) else (none))))) = some (r1, r2) := h
  clear h
  by_cases c2 : (a0.size : Int) > 16384
  · rw [if_pos c2] at H
    have c2b0 : decide (16384 < (a0.size : Int)) = true := decide_eq_true c2
    have c2b1 : decide (16384 < a0.size) = true := decide_eq_true (by omega)
    clear c2
    simp only [Option.some.injEq, Prod.mk.injEq] at H
    obtain ⟨rfl, rfl⟩ := H
    go_enter Try.func32, Try.ntmps32
    go_wp2
    go_ret2
    exact ⟨by first | rfl | (simp [errW_none, errW_some] <;> rfl) | (simp [*, errW_none, errW_some] <;> rfl), by repeat (first | (with_reducible first | exact HB.out | apply below_alloc | apply pw_below_drewN | apply below_drew1) | exact HB.out)⟩
  · rw [if_neg c2] at H
    have c2b0 : decide (16384 < (a0.size : Int)) = false := decide_eq_false c2
    have c2b1 : decide (16384 < a0.size) = false := decide_eq_false (by omega)
    clear c2
    replace H := Option.bind_eq_some_iff.mp H
    obtain ⟨t104, A30, H⟩ := H
    replace H : ((some (([215] : List Int) : List Int)).bind fun y105 => (if (strOfNums y105).size + t104.size ≤ 9223372036854775807 then ((frame_Sum.f t104).bind fun t108 => ((frame_four.f t108).bind fun t109 => (if ((strOfNums y105) ++ t104).size + t109.size ≤ 9223372036854775807 then (some (((strOfNums y105) ++ t104) ++ t109, 0)) else (none)))) else (none))) = some (r1, r2) := H
    have A3 := Aside0.mk A30
    clear A30
    obtain ⟨y105, hy105⟩ : ∃ y_ : List Int, y_ = (([215] : List Int)) := ⟨_, rfl⟩
    replace H : (if (strOfNums y105).size + t104.size ≤ 9223372036854775807 then ((frame_Sum.f t104).bind fun t108 => ((frame_four.f t108).bind fun t109 => (if ((strOfNums y105) ++ t104).size + t109.size ≤ 9223372036854775807 then (some (((strOfNums y105) ++ t104) ++ t109, 0)) else (none)))) else (none)) = some (r1, r2) := by first | (rw [hy105]; with_reducible exact H) | (have H2_ := (Option.bind_some _ _).symm.trans H; rw [hy105]; with_reducible exact H2_) | (have H2_ := (Option.bind_some _ _).symm.trans H; with_reducible exact H2_) | with_reducible exact H | (rw [hy105]; exact H) | exact H
    have Ny105 := Aside0.mk hy105
    clear hy105
    by_cases c4 : (strOfNums y105).size + t104.size ≤ 9223372036854775807
    · rw [if_pos c4] at H
      have c4b0 := eq_true c4
      have c4b1 : decide ((strOfNums y105).size + t104.size ≤ 9223372036854775807) = true := decide_eq_true c4
      try have c4b2 : (9223372036854775807 < (strOfNums y105).size + t104.size) = False := eq_false (Nat.not_lt.2 c4)
      replace H := Option.bind_eq_some_iff.mp H
      obtain ⟨t108, A50, H⟩ := H
      replace H : ((frame_four.f t108).bind fun t109 => (if ((strOfNums y105) ++ t104).size + t109.size ≤ 9223372036854775807 then (some (((strOfNums y105) ++ t104) ++ t109, 0)) else (none))) = some (r1, r2) := H
      have A5 := Aside0.mk A50
      clear A50
      replace H := Option.bind_eq_some_iff.mp H
      obtain ⟨t109, A60, H⟩ := H
      replace H : (if ((strOfNums y105) ++ t104).size + t109.size ≤ 9223372036854775807 then (some (((strOfNums y105) ++ t104) ++ t109, 0)) else (none)) = some (r1, r2) := H
      have A6 := Aside0.mk A60
      clear A60
      by_cases c7 : ((strOfNums y105) ++ t104).size + t109.size ≤ 9223372036854775807
      · rw [if_pos c7] at H
        have c7b0 := eq_true c7
        have c7b1 : decide (((strOfNums y105) ++ t104).size + t109.size ≤ 9223372036854775807) = true := decide_eq_true c7
        try have c7b2 : (9223372036854775807 < ((strOfNums y105) ++ t104).size + t109.size) = False := eq_false (Nat.not_lt.2 c7)
        have c7b3 := c7b2
        repeat rw [ByteArray.size_append] at c7b3
        simp only [Option.some.injEq, Prod.mk.injEq] at H
        obtain ⟨rfl, rfl⟩ := H
        go_enter Try.func32, Try.ntmps32
        try go_wp2_with (first | ((with_reducible refine gate_callee (f := 57) rfl ?_); refine goesL_ (some 9) rfl rfl Try.func57 (by kernel_rfl) rfl #[.string a0] rfl (by (try simp only [List.map_toArray, List.map_cons, List.map_nil]); first | done | rfl | (simp only [List.length_drop, List.length_take]; rfl)) ?_; (with_reducible refine (frame_body.calls a0 t104 _ A3.out).mono ?_); rintro e w8 ⟨rfl, hb⟩; refine ⟨_, rfl, ?_⟩; have n0_ := Aside0.mk (below_step (by repeat (first | (with_reducible first | exact HB.out | apply below_alloc | apply pw_below_drewN | apply below_drew1) | exact HB.out)) hb); clear HB; have HB := n0_; clear n0_; (try clear hb); (try clear hb2); (try clear hk); (try clear hi)))
        have n0_ := Aside0.mk (below_drew1 HB.out)
        clear HB
        have HB := n0_
        clear n0_
        refine start_ (n := 10) (S := fun w' => True) (ds := []) #[false, false, false, false, false, false, false, false, false, false] (by kernel_rfl) rfl rfl trivial (fun hHeld => ?_); refine with_tabW frame_Wrap.tab4 frame_Wrap.bits4 (fun HT_ HW_ => ?_)
        generalize w8.drew = w9 at HB hHeld ⊢
        refine pure_ (i := 2) (N := some 12) (v := ?_) (a' := ?_) #[false, false, true, false, false, false, false, false, false, false] rfl rfl (any_of HT_.out (by kernel_rfl)) (fun _ _ _ h => h) (Or.inl ⟨by rfl, ?_⟩) ?_ ?_
        rotate_left
        · intro w'
          go_simp
          with_reducible rfl
        rotate_left
        · simp only [Act.put, List.setIfInBounds_toArray, List.set_cons_zero, List.set_cons_succ, i64_w, i32_w]
          rfl
        refine pure_ (i := 4) (N := some 14) (v := ?_) (a' := ?_) #[false, false, true, false, true, false, false, false, false, false] rfl rfl (any_of HT_.out (by kernel_rfl)) (fun _ _ _ h => h) (Or.inl ⟨by rfl, ?_⟩) ?_ ?_
        rotate_left
        · intro w'
          go_simp
          with_reducible rfl
        rotate_left
        · simp only [Act.put, List.setIfInBounds_toArray, List.set_cons_zero, List.set_cons_succ, i64_w, i32_w]
          rfl
        refine join_ (σ := Value) 3 #[true, true, true, true, true, true, true, false, false, false] (fun s_ => [(10, s_), (11, .string (strOfNums y105)), (15, .int .u32 t108), (16, .string t109), (13, .string ((strOfNums y105) ++ t104))]) (fun s_ w' => (Kd.R (Kd.int .u8) 5 w' w.heap.size (fun _ => True) s_ y105) ∧ (Below w.heap.size w w')) ?_ ?_
        rotate_left
        · intro hJ0_1_5_6
          refine join_ (σ := Value) 4 #[true, true, true, true, true, true, false, false, false, false] (fun s_ => [(10, s_), (11, .string (strOfNums y105)), (15, .int .u32 t108), (13, .string ((strOfNums y105) ++ t104))]) (fun s_ w' => (Kd.R (Kd.int .u8) 5 w' w.heap.size (fun _ => True) s_ y105) ∧ (Below w.heap.size w w')) ?_ ?_
          rotate_left
          · intro hJ0_1_5
            refine join_ (σ := Value) 5 #[true, false, true, false, true, true, true, false, false, false] (fun s_ => [(10, s_), (15, .int .u32 t108), (16, .string t109)]) (fun s_ w' => (Kd.R (Kd.int .u8) 5 w' w.heap.size (fun _ => True) s_ y105) ∧ (Below w.heap.size w w')) ?_ ?_
            rotate_left
            · intro hJ0_5_6
              refine join_ (σ := Value) 5 #[true, true, true, true, true, false, false, false, false, false] (fun s_ => [(10, s_), (11, .string (strOfNums y105)), (13, .string ((strOfNums y105) ++ t104))]) (fun s_ w' => (Kd.R (Kd.int .u8) 5 w' w.heap.size (fun _ => True) s_ y105) ∧ (Below w.heap.size w w')) ?_ ?_
              rotate_left
              · intro hJ0_1
                refine join_ (σ := Value) 6 #[true, false, true, false, true, true, false, false, false, false] (fun s_ => [(10, s_), (15, .int .u32 t108)]) (fun s_ w' => (Kd.R (Kd.int .u8) 5 w' w.heap.size (fun _ => True) s_ y105) ∧ (Below w.heap.size w w')) ?_ ?_
                rotate_left
                · intro hJ0_5
                  refine join_ (σ := Unit) 6 #[false, false, true, false, true, true, true, false, false, false] (fun s_ => [(15, .int .u32 t108), (16, .string t109)]) (fun s_ w' => (Below w.heap.size w w')) ?_ ?_
                  rotate_left
                  · intro hJ5_6
                    refine join_ (σ := Value) 7 #[true, false, true, false, true, false, false, false, false, false] (fun s_ => [(10, s_)]) (fun s_ w' => (Kd.R (Kd.int .u8) 5 w' w.heap.size (fun _ => True) s_ y105) ∧ (Below w.heap.size w w')) ?_ ?_
                    rotate_left
                    · intro hJ0
                      refine join_ (σ := Unit) 7 #[false, false, true, false, true, true, false, false, false, false] (fun s_ => [(15, .int .u32 t108)]) (fun s_ w' => (Below w.heap.size w w')) ?_ ?_
                      rotate_left
                      · intro hJ5
                        refine two_ (i := 0) (j := 5) (Ni := some 10) (Nj := some 15) #[true, false, true, false, true, false, false, false, false, false] #[false, false, true, false, true, true, false, false, false, false] rfl rfl rfl rfl (two_of HT_.out (by kernel_rfl)) (by decide) (by decide) (fun K hK => ?_) (fun K hK => ?_)
                        · skip
                          refine Kd.R_lit_step (Kd.int .u8) _ 5 ?hg (N := 10) ?hd (xs := ([215] : List Int)) (inner := [.int .u8 215]) (ok := fun _ => True) (okp := fun _ => True) ?hr ?hp (fun _ hk => hk) trivial (Below.refl _ _) (Nat.le_refl _) (by simp) ?_; (case hd => rfl); (case hg => rfl); (case hr => first | (go_simp; done) | (go_simp; rfl)); (case hp => exact (Reps.one (show Kd.M (Kd.int .u8) _ _ _ 215 [.int .u8 215] from rfl) (Reps.none _ _)))
                          intro v106 w10 ho11 hb hg_ hnew_
                          clear hg_ hnew_
                          (first | rw [← Ny105.out] at ho11 | (simp only [Int.reduceToNat] at ho11; rw [← Ny105.out] at ho11))
                          have n0_ := Aside0.mk (Kd.R_lower ho11 (below_size (by repeat (first | (with_reducible first | exact HB.out | apply below_alloc | apply pw_below_drewN | apply below_drew1) | exact HB.out))))
                          have n1_ := Aside0.mk (below_step (by repeat (first | (with_reducible first | exact HB.out | apply below_alloc | apply pw_below_drewN | apply below_drew1) | exact HB.out)) hb)
                          clear HB
                          have HO107 := n0_
                          have HB := n1_
                          clear n0_ n1_
                          clear hb ho11
                          refine hK.out _ _ trivial (fun hHeld => ?_)
                          clear hK K
                          refine norm_ (a' := ?_) ?_ ?_
                          rotate_left
                          · show Act.put _ (some 10) _ = _
                            simp only [Act.put, List.setIfInBounds_toArray, List.set_cons_zero, List.set_cons_succ, i64_w, i32_w]
                            rfl
                          exact norm_ (by first | (simp only [putAll, Act.put, List.setIfInBounds_toArray, List.set_cons_zero, List.set_cons_succ]; done) | (simp only [putAll, Act.put, List.setIfInBounds_toArray, List.set_cons_zero, List.set_cons_succ]; rfl)) (hJ0 (v106) _ ⟨(by (with_reducible repeat (first | apply Kd.R_alloc | apply Kd.R_drewN | apply Kd.R_drew)); exact HO107.out), (by repeat (first | (with_reducible first | exact HB.out | apply below_alloc | apply pw_below_drewN | apply below_drew1) | exact HB.out))⟩)
                        · skip
                          refine goes_ Try.func59 (by kernel_rfl) rfl #[.string t104] (by rfl) rfl rfl (by (try simp only [List.map_toArray, List.map_cons, List.map_nil]); first | done | rfl | (simp only [List.length_drop, List.length_take]; rfl)) ?_
                          with_reducible refine (frame_Sum.calls t104 t108 _ A5.out).mono ?_
                          rintro e w10 ⟨rfl, hb⟩
                          refine ⟨_, rfl, ?_⟩
                          have n0_ := Aside0.mk (below_step (by repeat (first | (with_reducible first | exact HB.out | apply below_alloc | apply pw_below_drewN | apply below_drew1) | exact HB.out)) hb)
                          clear HB
                          have HB := n0_
                          clear n0_
                          (try clear hb)
                          (try clear hb2)
                          (try clear hk)
                          (try clear hi)
                          refine hK.out _ _ trivial (fun hHeld => ?_)
                          clear hK K
                          refine norm_ (a' := ?_) ?_ ?_
                          rotate_left
                          · show Act.put _ (some 15) _ = _
                            simp only [Act.put, List.setIfInBounds_toArray, List.set_cons_zero, List.set_cons_succ, i64_w, i32_w]
                            rfl
                          exact norm_ (by first | (simp only [putAll, Act.put, List.setIfInBounds_toArray, List.set_cons_zero, List.set_cons_succ]; done) | (simp only [putAll, Act.put, List.setIfInBounds_toArray, List.set_cons_zero, List.set_cons_succ]; rfl)) (hJ5 () _ (by repeat (first | (with_reducible first | exact HB.out | apply below_alloc | apply pw_below_drewN | apply below_drew1) | exact HB.out)))
                      · skip
                        rintro _ w11 h0_
                        have n0_ : Aside0 (Below w.heap.size w w11) := ⟨h0_⟩
                        clear HB
                        clear h0_
                        have HB := n0_
                        clear n0_
                        have hHeld := trivial
                        refine norm_ (a' := ?_) ?_ ?_
                        rotate_left
                        · simp only [putAll, Act.put, List.setIfInBounds_toArray, List.set_cons_zero, List.set_cons_succ]
                          rfl
                        refine two_ (i := 0) (j := 6) (Ni := some 10) (Nj := some 16) #[true, false, true, false, true, true, false, false, false, false] #[false, false, true, false, true, true, true, false, false, false] rfl rfl rfl rfl (two_of HT_.out (by kernel_rfl)) (by decide) (by decide) (fun K hK => ?_) (fun K hK => ?_)
                        · skip
                          refine Kd.R_lit_step (Kd.int .u8) _ 5 ?hg (N := 10) ?hd (xs := ([215] : List Int)) (inner := [.int .u8 215]) (ok := fun _ => True) (okp := fun _ => True) ?hr ?hp (fun _ hk => hk) trivial (Below.refl _ _) (Nat.le_refl _) (by simp) ?_; (case hd => rfl); (case hg => rfl); (case hr => first | (go_simp; done) | (go_simp; rfl)); (case hp => exact (Reps.one (show Kd.M (Kd.int .u8) _ _ _ 215 [.int .u8 215] from rfl) (Reps.none _ _)))
                          intro v106 w12 ho13 hb hg_ hnew_
                          clear hg_ hnew_
                          (first | rw [← Ny105.out] at ho13 | (simp only [Int.reduceToNat] at ho13; rw [← Ny105.out] at ho13))
                          have n0_ := Aside0.mk (Kd.R_lower ho13 (below_size (by repeat (first | (with_reducible first | exact HB.out | apply below_alloc | apply pw_below_drewN | apply below_drew1) | exact HB.out))))
                          have n1_ := Aside0.mk (below_step (by repeat (first | (with_reducible first | exact HB.out | apply below_alloc | apply pw_below_drewN | apply below_drew1) | exact HB.out)) hb)
                          clear HB
                          have HO107 := n0_
                          have HB := n1_
                          clear n0_ n1_
                          clear hb ho13
                          refine hK.out _ _ trivial (fun hHeld => ?_)
                          clear hK K
                          refine norm_ (a' := ?_) ?_ ?_
                          rotate_left
                          · show Act.put _ (some 10) _ = _
                            simp only [Act.put, List.setIfInBounds_toArray, List.set_cons_zero, List.set_cons_succ, i64_w, i32_w]
                            rfl
                          exact norm_ (by first | (simp only [putAll, Act.put, List.setIfInBounds_toArray, List.set_cons_zero, List.set_cons_succ]; done) | (simp only [putAll, Act.put, List.setIfInBounds_toArray, List.set_cons_zero, List.set_cons_succ]; rfl)) (hJ0_5 (v106) _ ⟨(by (with_reducible repeat (first | apply Kd.R_alloc | apply Kd.R_drewN | apply Kd.R_drew)); exact HO107.out), (by repeat (first | (with_reducible first | exact HB.out | apply below_alloc | apply pw_below_drewN | apply below_drew1) | exact HB.out))⟩)
                        · skip
                          refine goes_ Try.func58 (by kernel_rfl) rfl #[.int .u32 t108] (by rfl) rfl rfl (by (try simp only [List.map_toArray, List.map_cons, List.map_nil]); first | done | rfl | (simp only [List.length_drop, List.length_take]; rfl)) ?_
                          with_reducible refine (frame_four.calls t108 t109 _ A6.out).mono ?_
                          rintro e w12 ⟨rfl, hb⟩
                          refine ⟨_, rfl, ?_⟩
                          have n0_ := Aside0.mk (below_step (by repeat (first | (with_reducible first | exact HB.out | apply below_alloc | apply pw_below_drewN | apply below_drew1) | exact HB.out)) hb)
                          clear HB
                          have HB := n0_
                          clear n0_
                          (try clear hb)
                          (try clear hb2)
                          (try clear hk)
                          (try clear hi)
                          refine hK.out _ _ trivial (fun hHeld => ?_)
                          clear hK K
                          refine norm_ (a' := ?_) ?_ ?_
                          rotate_left
                          · show Act.put _ (some 16) _ = _
                            simp only [Act.put, List.setIfInBounds_toArray, List.set_cons_zero, List.set_cons_succ, i64_w, i32_w]
                            rfl
                          exact norm_ (by first | (simp only [putAll, Act.put, List.setIfInBounds_toArray, List.set_cons_zero, List.set_cons_succ]; done) | (simp only [putAll, Act.put, List.setIfInBounds_toArray, List.set_cons_zero, List.set_cons_succ]; rfl)) (hJ5_6 () _ (by repeat (first | (with_reducible first | exact HB.out | apply below_alloc | apply pw_below_drewN | apply below_drew1) | exact HB.out)))
                    · skip
                      rintro v106 w12 ⟨h0_, h1_⟩
                      have n0_ : Aside0 (Kd.R (Kd.int .u8) 5 w12 w.heap.size (fun _ => True) v106 y105) := ⟨h0_⟩
                      have n1_ : Aside0 (Below w.heap.size w w12) := ⟨h1_⟩
                      clear HB
                      clear h0_ h1_
                      have HO107 := n0_
                      have HB := n1_
                      clear n0_ n1_
                      have hHeld := trivial
                      refine norm_ (a' := ?_) ?_ ?_
                      rotate_left
                      · simp only [putAll, Act.put, List.setIfInBounds_toArray, List.set_cons_zero, List.set_cons_succ]
                        rfl
                      refine two_ (i := 1) (j := 5) (Ni := some 11) (Nj := some 15) #[true, true, true, false, true, false, false, false, false, false] #[true, false, true, false, true, true, false, false, false, false] rfl rfl rfl rfl (two_of HT_.out (by kernel_rfl)) (by decide) (by decide) (fun K hK => ?_) (fun K hK => ?_)
                      · skip
                        have hcv13 := own_string (P := Try.prog) Try.underlying82 Try.underlying5 Try.underlying9 (Kd.own_of_R HO107.out)
                        refine value_ (w1 := ?_) (v := ?_) (by rfl) rfl ?_ ?_
                        rotate_left 2
                        · go_simp
                          constructor
                          · rfl
                          · rfl
                        clear hcv13
                        refine hK.out _ _ trivial (fun hHeld => ?_)
                        clear hK K
                        refine norm_ (a' := ?_) ?_ ?_
                        rotate_left
                        · show Act.put _ (some 11) _ = _
                          simp only [Act.put, List.setIfInBounds_toArray, List.set_cons_zero, List.set_cons_succ, i64_w, i32_w]
                          rfl
                        refine pure_ (i := 3) (N := some 13) (v := ?_) (a' := ?_) #[true, true, true, true, true, false, false, false, false, false] rfl rfl (any_of HT_.out (by kernel_rfl)) (fun _ _ _ h => h) (Or.inl ⟨by rfl, ?_⟩) ?_ ?_
                        rotate_left
                        · intro w'
                          go_simp
                          with_reducible rfl
                        rotate_left
                        · simp only [Act.put, List.setIfInBounds_toArray, List.set_cons_zero, List.set_cons_succ, i64_w, i32_w]
                          rfl
                        exact norm_ (by first | (simp only [putAll, Act.put, List.setIfInBounds_toArray, List.set_cons_zero, List.set_cons_succ]; done) | (simp only [putAll, Act.put, List.setIfInBounds_toArray, List.set_cons_zero, List.set_cons_succ]; rfl)) (hJ0_1 (v106) _ ⟨(by (with_reducible repeat (first | apply Kd.R_alloc | apply Kd.R_drewN | apply Kd.R_drew)); exact HO107.out), (by repeat (first | (with_reducible first | exact HB.out | apply below_alloc | apply pw_below_drewN | apply below_drew1) | exact HB.out))⟩)
                      · skip
                        refine goes_ Try.func59 (by kernel_rfl) rfl #[.string t104] (by rfl) rfl rfl (by (try simp only [List.map_toArray, List.map_cons, List.map_nil]); first | done | rfl | (simp only [List.length_drop, List.length_take]; rfl)) ?_
                        with_reducible refine (frame_Sum.calls t104 t108 _ A5.out).mono ?_
                        rintro e w13 ⟨rfl, hb⟩
                        refine ⟨_, rfl, ?_⟩
                        have n0_ := Aside0.mk (Kd.R_below (by (with_reducible repeat (first | apply Kd.R_alloc | apply Kd.R_drewN | apply Kd.R_drew)); exact HO107.out) hb)
                        have n1_ := Aside0.mk (below_step (by repeat (first | (with_reducible first | exact HB.out | apply below_alloc | apply pw_below_drewN | apply below_drew1) | exact HB.out)) hb)
                        clear HO107
                        clear HB
                        have HO107 := n0_
                        have HB := n1_
                        clear n0_ n1_
                        (try clear hb)
                        (try clear hb2)
                        (try clear hk)
                        (try clear hi)
                        refine hK.out _ _ trivial (fun hHeld => ?_)
                        clear hK K
                        refine norm_ (a' := ?_) ?_ ?_
                        rotate_left
                        · show Act.put _ (some 15) _ = _
                          simp only [Act.put, List.setIfInBounds_toArray, List.set_cons_zero, List.set_cons_succ, i64_w, i32_w]
                          rfl
                        exact norm_ (by first | (simp only [putAll, Act.put, List.setIfInBounds_toArray, List.set_cons_zero, List.set_cons_succ]; done) | (simp only [putAll, Act.put, List.setIfInBounds_toArray, List.set_cons_zero, List.set_cons_succ]; rfl)) (hJ0_5 (v106) _ ⟨(by (with_reducible repeat (first | apply Kd.R_alloc | apply Kd.R_drewN | apply Kd.R_drew)); exact HO107.out), (by repeat (first | (with_reducible first | exact HB.out | apply below_alloc | apply pw_below_drewN | apply below_drew1) | exact HB.out))⟩)
                  · skip
                    rintro _ w12 h0_
                    have n0_ : Aside0 (Below w.heap.size w w12) := ⟨h0_⟩
                    clear HB
                    clear h0_
                    have HB := n0_
                    clear n0_
                    have hHeld := trivial
                    refine norm_ (a' := ?_) ?_ ?_
                    rotate_left
                    · simp only [putAll, Act.put, List.setIfInBounds_toArray, List.set_cons_zero, List.set_cons_succ]
                      rfl
                    refine one_ (i := 0) (N := some 10) #[true, false, true, false, true, true, true, false, false, false] rfl rfl (one_of HT_.out (by kernel_rfl)) (by decide) (fun K hK => ?_)
                    refine Kd.R_lit_step (Kd.int .u8) _ 5 ?hg (N := 10) ?hd (xs := ([215] : List Int)) (inner := [.int .u8 215]) (ok := fun _ => True) (okp := fun _ => True) ?hr ?hp (fun _ hk => hk) trivial (Below.refl _ _) (Nat.le_refl _) (by simp) ?_; (case hd => rfl); (case hg => rfl); (case hr => first | (go_simp; done) | (go_simp; rfl)); (case hp => exact (Reps.one (show Kd.M (Kd.int .u8) _ _ _ 215 [.int .u8 215] from rfl) (Reps.none _ _)))
                    intro v106 w13 ho14 hb hg_ hnew_
                    clear hg_ hnew_
                    (first | rw [← Ny105.out] at ho14 | (simp only [Int.reduceToNat] at ho14; rw [← Ny105.out] at ho14))
                    have n0_ := Aside0.mk (Kd.R_lower ho14 (below_size (by repeat (first | (with_reducible first | exact HB.out | apply below_alloc | apply pw_below_drewN | apply below_drew1) | exact HB.out))))
                    have n1_ := Aside0.mk (below_step (by repeat (first | (with_reducible first | exact HB.out | apply below_alloc | apply pw_below_drewN | apply below_drew1) | exact HB.out)) hb)
                    clear HB
                    have HO107 := n0_
                    have HB := n1_
                    clear n0_ n1_
                    clear hb ho14
                    refine hK.out _ _ trivial (fun hHeld => ?_)
                    clear hK K
                    refine norm_ (a' := ?_) ?_ ?_
                    rotate_left
                    · show Act.put _ (some 10) _ = _
                      simp only [Act.put, List.setIfInBounds_toArray, List.set_cons_zero, List.set_cons_succ, i64_w, i32_w]
                      rfl
                    exact norm_ (by first | (simp only [putAll, Act.put, List.setIfInBounds_toArray, List.set_cons_zero, List.set_cons_succ]; done) | (simp only [putAll, Act.put, List.setIfInBounds_toArray, List.set_cons_zero, List.set_cons_succ]; rfl)) (hJ0_5_6 (v106) _ ⟨(by (with_reducible repeat (first | apply Kd.R_alloc | apply Kd.R_drewN | apply Kd.R_drew)); exact HO107.out), (by repeat (first | (with_reducible first | exact HB.out | apply below_alloc | apply pw_below_drewN | apply below_drew1) | exact HB.out))⟩)
                · skip
                  rintro v106 w13 ⟨h0_, h1_⟩
                  have n0_ : Aside0 (Kd.R (Kd.int .u8) 5 w13 w.heap.size (fun _ => True) v106 y105) := ⟨h0_⟩
                  have n1_ : Aside0 (Below w.heap.size w w13) := ⟨h1_⟩
                  clear HB
                  clear h0_ h1_
                  have HO107 := n0_
                  have HB := n1_
                  clear n0_ n1_
                  have hHeld := trivial
                  refine norm_ (a' := ?_) ?_ ?_
                  rotate_left
                  · simp only [putAll, Act.put, List.setIfInBounds_toArray, List.set_cons_zero, List.set_cons_succ]
                    rfl
                  refine two_ (i := 1) (j := 6) (Ni := some 11) (Nj := some 16) #[true, true, true, false, true, true, false, false, false, false] #[true, false, true, false, true, true, true, false, false, false] rfl rfl rfl rfl (two_of HT_.out (by kernel_rfl)) (by decide) (by decide) (fun K hK => ?_) (fun K hK => ?_)
                  · skip
                    have hcv14 := own_string (P := Try.prog) Try.underlying82 Try.underlying5 Try.underlying9 (Kd.own_of_R HO107.out)
                    refine value_ (w1 := ?_) (v := ?_) (by rfl) rfl ?_ ?_
                    rotate_left 2
                    · go_simp
                      constructor
                      · rfl
                      · rfl
                    clear hcv14
                    refine hK.out _ _ trivial (fun hHeld => ?_)
                    clear hK K
                    refine norm_ (a' := ?_) ?_ ?_
                    rotate_left
                    · show Act.put _ (some 11) _ = _
                      simp only [Act.put, List.setIfInBounds_toArray, List.set_cons_zero, List.set_cons_succ, i64_w, i32_w]
                      rfl
                    refine pure_ (i := 3) (N := some 13) (v := ?_) (a' := ?_) #[true, true, true, true, true, true, false, false, false, false] rfl rfl (any_of HT_.out (by kernel_rfl)) (fun _ _ _ h => h) (Or.inl ⟨by rfl, ?_⟩) ?_ ?_
                    rotate_left
                    · intro w'
                      go_simp
                      with_reducible rfl
                    rotate_left
                    · simp only [Act.put, List.setIfInBounds_toArray, List.set_cons_zero, List.set_cons_succ, i64_w, i32_w]
                      rfl
                    exact norm_ (by first | (simp only [putAll, Act.put, List.setIfInBounds_toArray, List.set_cons_zero, List.set_cons_succ]; done) | (simp only [putAll, Act.put, List.setIfInBounds_toArray, List.set_cons_zero, List.set_cons_succ]; rfl)) (hJ0_1_5 (v106) _ ⟨(by (with_reducible repeat (first | apply Kd.R_alloc | apply Kd.R_drewN | apply Kd.R_drew)); exact HO107.out), (by repeat (first | (with_reducible first | exact HB.out | apply below_alloc | apply pw_below_drewN | apply below_drew1) | exact HB.out))⟩)
                  · skip
                    refine goes_ Try.func58 (by kernel_rfl) rfl #[.int .u32 t108] (by rfl) rfl rfl (by (try simp only [List.map_toArray, List.map_cons, List.map_nil]); first | done | rfl | (simp only [List.length_drop, List.length_take]; rfl)) ?_
                    with_reducible refine (frame_four.calls t108 t109 _ A6.out).mono ?_
                    rintro e w14 ⟨rfl, hb⟩
                    refine ⟨_, rfl, ?_⟩
                    have n0_ := Aside0.mk (Kd.R_below (by (with_reducible repeat (first | apply Kd.R_alloc | apply Kd.R_drewN | apply Kd.R_drew)); exact HO107.out) hb)
                    have n1_ := Aside0.mk (below_step (by repeat (first | (with_reducible first | exact HB.out | apply below_alloc | apply pw_below_drewN | apply below_drew1) | exact HB.out)) hb)
                    clear HO107
                    clear HB
                    have HO107 := n0_
                    have HB := n1_
                    clear n0_ n1_
                    (try clear hb)
                    (try clear hb2)
                    (try clear hk)
                    (try clear hi)
                    refine hK.out _ _ trivial (fun hHeld => ?_)
                    clear hK K
                    refine norm_ (a' := ?_) ?_ ?_
                    rotate_left
                    · show Act.put _ (some 16) _ = _
                      simp only [Act.put, List.setIfInBounds_toArray, List.set_cons_zero, List.set_cons_succ, i64_w, i32_w]
                      rfl
                    exact norm_ (by first | (simp only [putAll, Act.put, List.setIfInBounds_toArray, List.set_cons_zero, List.set_cons_succ]; done) | (simp only [putAll, Act.put, List.setIfInBounds_toArray, List.set_cons_zero, List.set_cons_succ]; rfl)) (hJ0_5_6 (v106) _ ⟨(by (with_reducible repeat (first | apply Kd.R_alloc | apply Kd.R_drewN | apply Kd.R_drew)); exact HO107.out), (by repeat (first | (with_reducible first | exact HB.out | apply below_alloc | apply pw_below_drewN | apply below_drew1) | exact HB.out))⟩)
              · skip
                rintro v106 w13 ⟨h0_, h1_⟩
                have n0_ : Aside0 (Kd.R (Kd.int .u8) 5 w13 w.heap.size (fun _ => True) v106 y105) := ⟨h0_⟩
                have n1_ : Aside0 (Below w.heap.size w w13) := ⟨h1_⟩
                clear HB
                clear h0_ h1_
                have HO107 := n0_
                have HB := n1_
                clear n0_ n1_
                have hHeld := trivial
                refine norm_ (a' := ?_) ?_ ?_
                rotate_left
                · simp only [putAll, Act.put, List.setIfInBounds_toArray, List.set_cons_zero, List.set_cons_succ]
                  rfl
                refine one_ (i := 5) (N := some 15) #[true, true, true, true, true, true, false, false, false, false] rfl rfl (one_of HT_.out (by kernel_rfl)) (by decide) (fun K hK => ?_)
                refine goes_ Try.func59 (by kernel_rfl) rfl #[.string t104] (by rfl) rfl rfl (by (try simp only [List.map_toArray, List.map_cons, List.map_nil]); first | done | rfl | (simp only [List.length_drop, List.length_take]; rfl)) ?_
                with_reducible refine (frame_Sum.calls t104 t108 _ A5.out).mono ?_
                rintro e w14 ⟨rfl, hb⟩
                refine ⟨_, rfl, ?_⟩
                have n0_ := Aside0.mk (Kd.R_below (by (with_reducible repeat (first | apply Kd.R_alloc | apply Kd.R_drewN | apply Kd.R_drew)); exact HO107.out) hb)
                have n1_ := Aside0.mk (below_step (by repeat (first | (with_reducible first | exact HB.out | apply below_alloc | apply pw_below_drewN | apply below_drew1) | exact HB.out)) hb)
                clear HO107
                clear HB
                have HO107 := n0_
                have HB := n1_
                clear n0_ n1_
                (try clear hb)
                (try clear hb2)
                (try clear hk)
                (try clear hi)
                refine hK.out _ _ trivial (fun hHeld => ?_)
                clear hK K
                refine norm_ (a' := ?_) ?_ ?_
                rotate_left
                · show Act.put _ (some 15) _ = _
                  simp only [Act.put, List.setIfInBounds_toArray, List.set_cons_zero, List.set_cons_succ, i64_w, i32_w]
                  rfl
                exact norm_ (by first | (simp only [putAll, Act.put, List.setIfInBounds_toArray, List.set_cons_zero, List.set_cons_succ]; done) | (simp only [putAll, Act.put, List.setIfInBounds_toArray, List.set_cons_zero, List.set_cons_succ]; rfl)) (hJ0_1_5 (v106) _ ⟨(by (with_reducible repeat (first | apply Kd.R_alloc | apply Kd.R_drewN | apply Kd.R_drew)); exact HO107.out), (by repeat (first | (with_reducible first | exact HB.out | apply below_alloc | apply pw_below_drewN | apply below_drew1) | exact HB.out))⟩)
            · skip
              rintro v106 w14 ⟨h0_, h1_⟩
              have n0_ : Aside0 (Kd.R (Kd.int .u8) 5 w14 w.heap.size (fun _ => True) v106 y105) := ⟨h0_⟩
              have n1_ : Aside0 (Below w.heap.size w w14) := ⟨h1_⟩
              clear HB
              clear h0_ h1_
              have HO107 := n0_
              have HB := n1_
              clear n0_ n1_
              have hHeld := trivial
              refine norm_ (a' := ?_) ?_ ?_
              rotate_left
              · simp only [putAll, Act.put, List.setIfInBounds_toArray, List.set_cons_zero, List.set_cons_succ]
                rfl
              refine one_ (i := 1) (N := some 11) #[true, true, true, false, true, true, true, false, false, false] rfl rfl (one_of HT_.out (by kernel_rfl)) (by decide) (fun K hK => ?_)
              have hcv15 := own_string (P := Try.prog) Try.underlying82 Try.underlying5 Try.underlying9 (Kd.own_of_R HO107.out)
              refine value_ (w1 := ?_) (v := ?_) (by rfl) rfl ?_ ?_
              rotate_left 2
              · go_simp
                constructor
                · rfl
                · rfl
              clear hcv15
              refine hK.out _ _ trivial (fun hHeld => ?_)
              clear hK K
              refine norm_ (a' := ?_) ?_ ?_
              rotate_left
              · show Act.put _ (some 11) _ = _
                simp only [Act.put, List.setIfInBounds_toArray, List.set_cons_zero, List.set_cons_succ, i64_w, i32_w]
                rfl
              refine pure_ (i := 3) (N := some 13) (v := ?_) (a' := ?_) #[true, true, true, true, true, true, true, false, false, false] rfl rfl (any_of HT_.out (by kernel_rfl)) (fun _ _ _ h => h) (Or.inl ⟨by rfl, ?_⟩) ?_ ?_
              rotate_left
              · intro w'
                go_simp
                with_reducible rfl
              rotate_left
              · simp only [Act.put, List.setIfInBounds_toArray, List.set_cons_zero, List.set_cons_succ, i64_w, i32_w]
                rfl
              exact norm_ (by first | (simp only [putAll, Act.put, List.setIfInBounds_toArray, List.set_cons_zero, List.set_cons_succ]; done) | (simp only [putAll, Act.put, List.setIfInBounds_toArray, List.set_cons_zero, List.set_cons_succ]; rfl)) (hJ0_1_5_6 (v106) _ ⟨(by (with_reducible repeat (first | apply Kd.R_alloc | apply Kd.R_drewN | apply Kd.R_drew)); exact HO107.out), (by repeat (first | (with_reducible first | exact HB.out | apply below_alloc | apply pw_below_drewN | apply below_drew1) | exact HB.out))⟩)
          · skip
            rintro v106 w14 ⟨h0_, h1_⟩
            have n0_ : Aside0 (Kd.R (Kd.int .u8) 5 w14 w.heap.size (fun _ => True) v106 y105) := ⟨h0_⟩
            have n1_ : Aside0 (Below w.heap.size w w14) := ⟨h1_⟩
            clear HB
            clear h0_ h1_
            have HO107 := n0_
            have HB := n1_
            clear n0_ n1_
            have hHeld := trivial
            refine norm_ (a' := ?_) ?_ ?_
            rotate_left
            · simp only [putAll, Act.put, List.setIfInBounds_toArray, List.set_cons_zero, List.set_cons_succ]
              rfl
            refine one_ (i := 6) (N := some 16) #[true, true, true, true, true, true, true, false, false, false] rfl rfl (one_of HT_.out (by kernel_rfl)) (by decide) (fun K hK => ?_)
            refine goes_ Try.func58 (by kernel_rfl) rfl #[.int .u32 t108] (by rfl) rfl rfl (by (try simp only [List.map_toArray, List.map_cons, List.map_nil]); first | done | rfl | (simp only [List.length_drop, List.length_take]; rfl)) ?_
            with_reducible refine (frame_four.calls t108 t109 _ A6.out).mono ?_
            rintro e w15 ⟨rfl, hb⟩
            refine ⟨_, rfl, ?_⟩
            have n0_ := Aside0.mk (Kd.R_below (by (with_reducible repeat (first | apply Kd.R_alloc | apply Kd.R_drewN | apply Kd.R_drew)); exact HO107.out) hb)
            have n1_ := Aside0.mk (below_step (by repeat (first | (with_reducible first | exact HB.out | apply below_alloc | apply pw_below_drewN | apply below_drew1) | exact HB.out)) hb)
            clear HO107
            clear HB
            have HO107 := n0_
            have HB := n1_
            clear n0_ n1_
            (try clear hb)
            (try clear hb2)
            (try clear hk)
            (try clear hi)
            refine hK.out _ _ trivial (fun hHeld => ?_)
            clear hK K
            refine norm_ (a' := ?_) ?_ ?_
            rotate_left
            · show Act.put _ (some 16) _ = _
              simp only [Act.put, List.setIfInBounds_toArray, List.set_cons_zero, List.set_cons_succ, i64_w, i32_w]
              rfl
            exact norm_ (by first | (simp only [putAll, Act.put, List.setIfInBounds_toArray, List.set_cons_zero, List.set_cons_succ]; done) | (simp only [putAll, Act.put, List.setIfInBounds_toArray, List.set_cons_zero, List.set_cons_succ]; rfl)) (hJ0_1_5_6 (v106) _ ⟨(by (with_reducible repeat (first | apply Kd.R_alloc | apply Kd.R_drewN | apply Kd.R_drew)); exact HO107.out), (by repeat (first | (with_reducible first | exact HB.out | apply below_alloc | apply pw_below_drewN | apply below_drew1) | exact HB.out))⟩)
        rintro v106 w15 ⟨h0_, h1_⟩
        have n0_ : Aside0 (Kd.R (Kd.int .u8) 5 w15 w.heap.size (fun _ => True) v106 y105) := ⟨h0_⟩
        have n1_ : Aside0 (Below w.heap.size w w15) := ⟨h1_⟩
        clear HB
        clear h0_ h1_
        have HO107 := n0_
        have HB := n1_
        clear n0_ n1_
        have hHeld := trivial
        refine norm_ (a' := ?_) ?_ ?_
        rotate_left
        · simp only [putAll, Act.put, List.setIfInBounds_toArray, List.set_cons_zero, List.set_cons_succ]
          rfl
        refine pure_ (i := 7) (N := some 17) (v := ?_) (a' := ?_) #[true, true, true, true, true, true, true, true, false, false] rfl rfl (any_of HT_.out (by kernel_rfl)) (fun _ _ _ h => h) (Or.inl ⟨by rfl, ?_⟩) ?_ ?_
        rotate_left
        · intro w'
          go_simp
          with_reducible rfl
        rotate_left
        · simp only [Act.put, List.setIfInBounds_toArray, List.set_cons_zero, List.set_cons_succ, i64_w, i32_w]
          rfl
        refine pure_ (i := 8) (N := some 2) (v := ?_) (a' := ?_) #[true, true, true, true, true, true, true, true, true, false] rfl rfl (any_of HT_.out (by kernel_rfl)) (fun _ _ _ h => h) (Or.inl ⟨by rfl, ?_⟩) ?_ ?_
        rotate_left
        · intro w'
          go_simp
          with_reducible rfl
        rotate_left
        · simp only [Act.put, List.setIfInBounds_toArray, List.set_cons_zero, List.set_cons_succ, i64_w, i32_w]
          rfl
        refine pure_ (i := 9) (N := some 3) (v := ?_) (a' := ?_) #[true, true, true, true, true, true, true, true, true, true] rfl rfl (any_of HT_.out (by kernel_rfl)) (fun _ _ _ h => h) (Or.inl ⟨by rfl, ?_⟩) ?_ ?_
        rotate_left
        · intro w'
          go_simp
          with_reducible rfl
        rotate_left
        · simp only [Act.put, List.setIfInBounds_toArray, List.set_cons_zero, List.set_cons_succ, i64_w, i32_w]
          rfl
        refine done_ (done_of HT_.out (by kernel_rfl)) ?_
        try go_wp2
        go_ret2
        exact ⟨by first | rfl | (simp [errW_none, errW_some] <;> rfl) | (simp [*, errW_none, errW_some] <;> rfl), by repeat (first | (with_reducible first | exact HB.out | apply below_alloc | apply pw_below_drewN | apply below_drew1) | exact HB.out)⟩
      · rw [if_neg c7] at H
        exact absurd H (by simp)
    · rw [if_neg c4] at H
      exact absurd H (by simp)

/-! ### dovecoteref02_Number: function 67 -/
def dovecoteref02_Number.f (a0 : Int) : Option ByteArray := if 0 ≤ a0 then (if a0 ≤ 18446744073709551615 then some (encB a0) else none) else none
theorem dovecoteref02_Number.calls (a0 : Int) (r : ByteArray) (w : World) (h : dovecoteref02_Number.f a0 = some r) :
    Calls Try.prog 67 #[.int .u64 a0] w fun e w' => e = .returned (.string r) ∧ Below w.heap.size w w' := by
  unfold dovecoteref02_Number.f at h
  split at h
  · split at h
    · obtain rfl := Option.some.inj h
      exact ref_number a0 (by assumption) (by assumption) w
    · cases h
  · cases h


/-! ### dovecoteref02_Text: function 86 -/
def dovecoteref02_Text.f (a0 : ByteArray) : Option ByteArray := if a0.size ≤ 100000 then some (encT a0) else none
theorem dovecoteref02_Text.calls (a0 : ByteArray) (r : ByteArray) (w : World) (h : dovecoteref02_Text.f a0 = some r) :
    Calls Try.prog 86 #[.string a0] w fun e w' => e = .returned (.string r) ∧ Below w.heap.size w w' := by
  unfold dovecoteref02_Text.f at h
  split at h
  · obtain rfl := Option.some.inj h
    exact ref_text a0 (by assumption) w
  · cases h


/-! ### dovecoteref03_four: function 87 -/
def dovecoteref03_four.f (a0 : Int) : Option (ByteArray) := some (strOfNums (([(a0) % 256, ((Int.tdiv a0 256) % 4294967296) % 256, ((Int.tdiv a0 65536) % 4294967296) % 256, ((Int.tdiv a0 16777216) % 4294967296) % 256] : List Int)))
set_option maxHeartbeats 8000000 in
set_option maxRecDepth 100000 in
theorem dovecoteref03_four.calls (a0 : Int) (r : ByteArray) (w : World) (h : dovecoteref03_four.f a0 = some r) :
    Calls Try.prog 87 #[.int .u32 a0] w fun e w' => e = .returned (.string r) ∧ Below w.heap.size w w' := by
  have HB := Aside0.mk (Below.refl w.heap.size w)
  have H : (some (strOfNums (([(a0) % 256, ((Int.tdiv a0 256) % 4294967296) % 256, ((Int.tdiv a0 65536) % 4294967296) % 256, ((Int.tdiv a0 16777216) % 4294967296) % 256] : List Int)))) = some r := h
  clear h
  obtain ⟨y110, hy110⟩ : ∃ y_ : List Int, y_ = (([(a0) % 256, ((Int.tdiv a0 256) % 4294967296) % 256, ((Int.tdiv a0 65536) % 4294967296) % 256, ((Int.tdiv a0 16777216) % 4294967296) % 256] : List Int)) := ⟨_, rfl⟩
  replace H : (some (strOfNums y110)) = some r := by first | (rw [hy110]; with_reducible exact H) | (have H2_ := (Option.bind_some _ _).symm.trans H; rw [hy110]; with_reducible exact H2_) | (have H2_ := (Option.bind_some _ _).symm.trans H; with_reducible exact H2_) | with_reducible exact H | (rw [hy110]; exact H) | exact H
  have Ny110 := Aside0.mk hy110
  clear hy110
  obtain rfl := Option.some.inj H
  go_enter Try.func87, Try.ntmps87
  go_wp2_with (first | ((with_reducible refine gate_dst (N := 14) rfl ?_); refine Kd.R_lit (Kd.int .u8) _ 5 ?hg (N := 14) ?hd (xs := ([(a0) % 256, ((Int.tdiv a0 256) % 4294967296) % 256, ((Int.tdiv a0 65536) % 4294967296) % 256, ((Int.tdiv a0 16777216) % 4294967296) % 256] : List Int)) (inner := [.int .u8 ((a0) % 256), .int .u8 (((Int.tdiv a0 256) % 4294967296) % 256), .int .u8 (((Int.tdiv a0 65536) % 4294967296) % 256), .int .u8 (((Int.tdiv a0 16777216) % 4294967296) % 256)]) (ok := fun _ => True) (okp := fun _ => True) ?hr ?hp (fun _ hk => hk) trivial (Below.refl _ _) (Nat.le_refl _) (by simp) ?_; (case hd => rfl); (case hg => rfl); (case hr => first | (go_simp; done) | (go_simp; rfl)); (case hp => exact (Reps.one (show Kd.M (Kd.int .u8) _ _ _ ((a0) % 256) [.int .u8 ((a0) % 256)] from rfl) (Reps.one (show Kd.M (Kd.int .u8) _ _ _ (((Int.tdiv a0 256) % 4294967296) % 256) [.int .u8 (((Int.tdiv a0 256) % 4294967296) % 256)] from rfl) (Reps.one (show Kd.M (Kd.int .u8) _ _ _ (((Int.tdiv a0 65536) % 4294967296) % 256) [.int .u8 (((Int.tdiv a0 65536) % 4294967296) % 256)] from rfl) (Reps.one (show Kd.M (Kd.int .u8) _ _ _ (((Int.tdiv a0 16777216) % 4294967296) % 256) [.int .u8 (((Int.tdiv a0 16777216) % 4294967296) % 256)] from rfl) (Reps.none _ _)))))); intro v111 w2 ho3 hb hg_ hnew_; clear hg_ hnew_; (first | rw [← Ny110.out] at ho3 | (simp only [Int.reduceToNat] at ho3; rw [← Ny110.out] at ho3)); have n0_ := Aside0.mk (Kd.R_lower ho3 (below_size (by repeat (first | (with_reducible first | exact HB.out | apply below_alloc | apply pw_below_drewN | apply below_drew1) | exact HB.out)))); have n1_ := Aside0.mk (below_step (by repeat (first | (with_reducible first | exact HB.out | apply below_alloc | apply pw_below_drewN | apply below_drew1) | exact HB.out)) hb); clear HB; have HO112 := n0_; have HB := n1_; clear n0_ n1_; clear hb ho3; have hcv4 := own_string (P := Try.prog) Try.underlying82 Try.underlying5 Try.underlying9 (Kd.own_of_R HO112.out)))
  go_ret
  exact ⟨by first | rfl | (simp [errW_none, errW_some] <;> rfl) | (simp [*, errW_none, errW_some] <;> rfl), by repeat (first | (with_reducible first | exact HB.out | apply below_alloc | apply pw_below_drewN | apply below_drew1) | exact HB.out)⟩

/-! ### dovecoteref03_Sum: function 88 -/
mutual
def dovecoteref03_Sum.l0 : Nat → ByteArray → Int → Int → Option (Int)
  | 0, _, _, _ => none
  | k + 1, x0, x3, x4 => if x4 < (x0.size : Int) then (if 0 ≤ x4 then (dovecoteref03_Sum.l1 k x0 (Go.bits .xor .u32 x3 ((bt x0 x4) % 4294967296)) x4 0) else (none)) else (some (Go.bits .xor .u32 x3 4294967295))
def dovecoteref03_Sum.l1 : Nat → ByteArray → Int → Int → Int → Option (Int)
  | 0, _, _, _, _ => none
  | k + 1, x0, x3, x4, x5 => if x5 < 8 then (if (Int.tmod x3 2) = 1 then (dovecoteref03_Sum.l1 k x0 (Go.bits .xor .u32 ((Int.tdiv x3 2) % 4294967296) 2197175160) x4 (wrap64 (x5 + 1))) else (dovecoteref03_Sum.l1 k x0 ((Int.tdiv x3 2) % 4294967296) x4 (wrap64 (x5 + 1)))) else (dovecoteref03_Sum.l0 k x0 x3 (wrap64 (x4 + 1)))
end
def dovecoteref03_Sum.f (k : Nat) (a0 : ByteArray) : Option (Int) := dovecoteref03_Sum.l0 k a0 4294967295 0
theorem dovecoteref03_Sum.mono_l : ∀ k, (∀ y0 y1 y2, LeO (dovecoteref03_Sum.l0 k y0 y1 y2) (dovecoteref03_Sum.l0 (k + 1) y0 y1 y2)) ∧ (∀ y0 y1 y2 y3, LeO (dovecoteref03_Sum.l1 k y0 y1 y2 y3) (dovecoteref03_Sum.l1 (k + 1) y0 y1 y2 y3))
  | 0 => ⟨fun _ _ _ r h => by simp [dovecoteref03_Sum.l0] at h, fun _ _ _ _ r h => by simp [dovecoteref03_Sum.l1] at h⟩
  | k + 1 => by
    obtain ⟨ih0, ih1⟩ := dovecoteref03_Sum.mono_l k
    refine ⟨?_, ?_⟩
    · intro y0 y1 y2
      unfold dovecoteref03_Sum.l0
      repeat' first
      | (with_reducible exact ih0 _ _ _)
      | (with_reducible exact ih1 _ _ _ _)
      | (with_reducible exact LeO.refl _)
      | (with_reducible exact LeO.none _)
      | (with_reducible refine LeO.ite ?_ ?_)
      | (with_reducible refine LeO.bind ?_ (fun _ => ?_))
      | exact ih0 _ _ _
      | exact ih1 _ _ _ _
      | exact LeO.none _
      | refine LeO.ite ?_ ?_
      | refine LeO.bind ?_ (fun _ => ?_)
    · intro y0 y1 y2 y3
      unfold dovecoteref03_Sum.l1
      repeat' first
      | (with_reducible exact ih0 _ _ _)
      | (with_reducible exact ih1 _ _ _ _)
      | (with_reducible exact LeO.refl _)
      | (with_reducible exact LeO.none _)
      | (with_reducible refine LeO.ite ?_ ?_)
      | (with_reducible refine LeO.bind ?_ (fun _ => ?_))
      | exact ih0 _ _ _
      | exact ih1 _ _ _ _
      | exact LeO.none _
      | refine LeO.ite ?_ ?_
      | refine LeO.bind ?_ (fun _ => ?_)
theorem dovecoteref03_Sum.mono : ∀ a0 k, LeO (dovecoteref03_Sum.f k a0) (dovecoteref03_Sum.f (k + 1) a0) := by
  intro a0 k
  obtain ⟨ih0, ih1⟩ := dovecoteref03_Sum.mono_l k
  unfold dovecoteref03_Sum.f
  repeat' first
      | (with_reducible exact ih0 _ _ _)
      | (with_reducible exact ih1 _ _ _ _)
      | (with_reducible exact LeO.refl _)
      | (with_reducible exact LeO.none _)
      | (with_reducible refine LeO.ite ?_ ?_)
      | (with_reducible refine LeO.bind ?_ (fun _ => ?_))
      | exact ih0 _ _ _
      | exact ih1 _ _ _ _
      | exact LeO.none _
      | refine LeO.ite ?_ ?_
      | refine LeO.bind ?_ (fun _ => ?_)
set_option maxHeartbeats 8000000 in
set_option maxRecDepth 100000 in
theorem dovecoteref03_Sum.calls (k : Nat) (a0 : ByteArray) (r : Int) (w : World) (h : dovecoteref03_Sum.f k a0 = some r) :
    Calls Try.prog 88 #[.string a0] w fun e w' => e = .returned (.int .u32 r) ∧ Drawn0 w w' := by
  have H : (dovecoteref03_Sum.l0 k a0 4294967295 0) = some r := h
  clear h
  have H' := Aside0.mk H
  clear H
  go_enter Try.func88, Try.ntmps88
  go_wp2
  go_loopg [3, 4] k (fun kq v3 v4 w' => ∃ (x3_1 : Int) (x4_1 : Int), v3 = .int .u32 x3_1 ∧ v4 = .int .i64 x4_1 ∧ Aside0 (dovecoteref03_Sum.l0 kq a0 x3_1 x4_1 = some r) ∧ Aside0 (kq ≤ k) ∧ Drawn0 w w')
  case atStart => exact ⟨(4294967295), (0), (by first | rfl | (simp; done) | (simp [*]; done)), (by first | rfl | (simp; done) | (simp [*]; done)), H', ⟨Nat.le_refl _⟩, by repeat (first | exact Drawn0.refl _ | apply Drawn0.step)⟩
  case round =>
    clear H'
    obtain ⟨x3_1, x4_1, rfl, rfl, HA, HK1, ⟨m1, rfl⟩⟩ := hrel
    cases gk with
    | zero => exact absurd HA.out (by simp [dovecoteref03_Sum.l0])
    | succ k1 =>
      have H := HA.out
      clear HA
      simp only [dovecoteref03_Sum.l0] at H
      by_cases c2 : x4_1 < (a0.size : Int)
      · rw [if_pos c2] at H
        have c2b0 : decide (x4_1 < (a0.size : Int)) = true := decide_eq_true c2
        clear c2
        by_cases c3 : 0 ≤ x4_1
        · rw [if_pos c3] at H
          have c3b0 : decide (0 ≤ x4_1) = true := decide_eq_true c3
          clear c3
          have H' := Aside0.mk H
          clear H
          have p4 : 0 ≤ (x4_1 : Int) := of_decide_eq_true (by first | (with_reducible assumption) | assumption)
          have q4 : x4_1 < (a0.size : Int) := of_decide_eq_true (by first | (with_reducible assumption) | assumption)
          have hx4 := bt_at a0 x4_1
          replace p4 := eq_true p4
          replace q4 := eq_true q4
          go_wp2
          go_loopg [3, 5] k1 (fun kq v3 v5 w' => ∃ (x3_2 : Int) (x5_2 : Int), v3 = .int .u32 x3_2 ∧ v5 = .int .i64 x5_2 ∧ Aside0 (dovecoteref03_Sum.l1 kq a0 x3_2 x4_1 x5_2 = some r) ∧ Aside0 (kq ≤ k1) ∧ Drawn0 w w')
          case atStart => exact ⟨(Go.bits .xor .u32 x3_1 ((bt a0 x4_1) % 4294967296)), (0), (by first | rfl | (simp; done) | (simp [*]; done)), (by first | rfl | (simp; done) | (simp [*]; done)), H', ⟨Nat.le_refl _⟩, by repeat (first | exact Drawn0.refl _ | apply Drawn0.step)⟩
          case round =>
            clear H'
            try clear c2
            try clear c2b0
            try clear p2
            try clear c3
            try clear c3b0
            try clear p4
            try clear q4
            try clear hx4
            try clear p4
            try clear q4
            obtain ⟨x3_2, x5_2, rfl, rfl, HA, HK2, ⟨m2, rfl⟩⟩ := hrel
            cases gk with
            | zero => exact absurd HA.out (by simp [dovecoteref03_Sum.l1])
            | succ k2 =>
              have H := HA.out
              clear HA
              simp only [dovecoteref03_Sum.l1] at H
              by_cases c5 : x5_2 < 8
              · rw [if_pos c5] at H
                have c5b0 : decide (x5_2 < 8) = true := decide_eq_true c5
                clear c5
                by_cases c6 : (Int.tmod x3_2 2) = 1
                · rw [if_pos c6] at H
                  have c6b0 : ((Int.tmod x3_2 2) == 1) = true := beq_iff_eq.mpr c6
                  have c6b1 : ((Int.tmod x3_2 2) != 1) = false := bne_eq_false_iff_eq.mpr c6
                  clear c6
                  have H' := Aside0.mk H
                  clear H
                  go_wp2
                  go_roundg k2
                  case measure => have := HK1.out; have := HK2.out; omega
                  case rel => exact ⟨(Go.bits .xor .u32 ((Int.tdiv x3_2 2) % 4294967296) 2197175160), (wrap64 (x5_2 + 1)), (by first | rfl | (simp; done) | (simp [*]; done)), (by first | rfl | (simp; done) | (simp [*]; done)), H', ⟨by have := HK1.out; have := HK2.out; omega⟩, by repeat (first | exact Drawn0.refl _ | apply Drawn0.step)⟩
                · rw [if_neg c6] at H
                  have c6b0 : ((Int.tmod x3_2 2) == 1) = false := beq_eq_false_iff_ne.mpr c6
                  have c6b1 : ((Int.tmod x3_2 2) != 1) = true := bne_iff_ne.mpr c6
                  have H' := Aside0.mk H
                  clear H
                  go_wp2
                  go_roundg k2
                  case measure => have := HK1.out; have := HK2.out; omega
                  case rel => exact ⟨((Int.tdiv x3_2 2) % 4294967296), (wrap64 (x5_2 + 1)), (by first | rfl | (simp; done) | (simp [*]; done)), (by first | rfl | (simp; done) | (simp [*]; done)), H', ⟨by have := HK1.out; have := HK2.out; omega⟩, by repeat (first | exact Drawn0.refl _ | apply Drawn0.step)⟩
              · rw [if_neg c5] at H
                have c5b0 : decide (x5_2 < 8) = false := decide_eq_false c5
                clear c5
                have H' := Aside0.mk H
                clear H
                go_wp2
                go_roundg k2
                case measure => have := HK1.out; have := HK2.out; omega
                case rel => exact ⟨(x3_2), (wrap64 (x4_1 + 1)), (by first | rfl | (simp; done) | (simp [*]; done)), (by first | rfl | (simp; done) | (simp [*]; done)), H', ⟨by have := HK1.out; have := HK2.out; omega⟩, by repeat (first | exact Drawn0.refl _ | apply Drawn0.step)⟩
        · rw [if_neg c3] at H
          exact absurd H (by simp)
      · rw [if_neg c2] at H
        have c2b0 : decide (x4_1 < (a0.size : Int)) = false := decide_eq_false c2
        clear c2
        obtain rfl := Option.some.inj H
        go_wp2
        go_ret
        exact ⟨by first | rfl | (simp; done) | (simp [*]; done), by repeat (first | exact Drawn0.refl _ | apply Drawn0.step)⟩

/-! ### dovecoteref03_Wrap: function 70 -/
def dovecoteref03_Wrap.f (k : Nat) (a0 : ByteArray) : Option (ByteArray × Int) := if (a0.size : Int) > 16384 then (some ((⟨#[]⟩ : ByteArray), 3)) else ((dovecoteref02_Text.f a0).bind fun t113 => (if 1 + t113.size ≤ 9223372036854775807 then ((dovecoteref03_Sum.f k t113).bind fun t114 => ((dovecoteref03_four.f t114).bind fun t115 => (if ((⟨#[215]⟩ : ByteArray) ++ t113).size + t115.size ≤ 9223372036854775807 then (some (((⟨#[215]⟩ : ByteArray) ++ t113) ++ t115, 0)) else (none)))) else (none)))
theorem dovecoteref03_Wrap.mono : ∀ a0 k, LeO (dovecoteref03_Wrap.f k a0) (dovecoteref03_Wrap.f (k + 1) a0) := by
  intro a0 k
  unfold dovecoteref03_Wrap.f
  repeat' first
      | (with_reducible exact dovecoteref03_Sum.mono _ _)
      | (with_reducible exact LeO.refl _)
      | (with_reducible exact LeO.none _)
      | (with_reducible refine LeO.ite ?_ ?_)
      | (with_reducible refine LeO.bind ?_ (fun _ => ?_))
      | exact dovecoteref03_Sum.mono _ _
      | exact LeO.none _
      | refine LeO.ite ?_ ?_
      | refine LeO.bind ?_ (fun _ => ?_)
set_option maxHeartbeats 8000000 in
set_option maxRecDepth 100000 in
theorem dovecoteref03_Wrap.calls (k : Nat) (a0 : ByteArray) (r1 : ByteArray) (r2 : Int) (w : World) (h : dovecoteref03_Wrap.f k a0 = some (r1, r2)) :
    Calls Try.prog 70 #[.string a0] w fun e w' => e = .returned (.tuple #[.string r1, .int .i64 r2]) ∧ Below w.heap.size w w' := by
  have HB := Aside0.mk (Below.refl w.heap.size w)
  have H : (if (a0.size : Int) > 16384 then (some ((⟨#[]⟩ : ByteArray), 3)) else ((dovecoteref02_Text.f a0).bind fun t113 => (if 1 + t113.size ≤ 9223372036854775807 then ((dovecoteref03_Sum.f k t113).bind fun t114 => ((dovecoteref03_four.f t114).bind fun t115 => (if ((⟨#[215]⟩ : ByteArray) ++ t113).size + t115.size ≤ 9223372036854775807 then (some (((⟨#[215]⟩ : ByteArray) ++ t113) ++ t115, 0)) else (none)))) else (none)))) = some (r1, r2) := h
  clear h
  by_cases c2 : (a0.size : Int) > 16384
  · rw [if_pos c2] at H
    have c2b0 : decide (16384 < (a0.size : Int)) = true := decide_eq_true c2
    have c2b1 : decide (16384 < a0.size) = true := decide_eq_true (by omega)
    clear c2
    simp only [Option.some.injEq, Prod.mk.injEq] at H
    obtain ⟨rfl, rfl⟩ := H
    go_enter Try.func70, Try.ntmps70
    go_wp2
    go_ret2
    exact ⟨by first | rfl | (simp [errW_none, errW_some] <;> rfl) | (simp [*, errW_none, errW_some] <;> rfl), by repeat (first | (with_reducible first | exact HB.out | apply below_alloc | apply pw_below_drewN | apply below_drew1) | exact HB.out)⟩
  · rw [if_neg c2] at H
    have c2b0 : decide (16384 < (a0.size : Int)) = false := decide_eq_false c2
    have c2b1 : decide (16384 < a0.size) = false := decide_eq_false (by omega)
    clear c2
    replace H := Option.bind_eq_some_iff.mp H
    obtain ⟨t113, A30, H⟩ := H
    replace H : (if 1 + t113.size ≤ 9223372036854775807 then ((dovecoteref03_Sum.f k t113).bind fun t114 => ((dovecoteref03_four.f t114).bind fun t115 => (if ((⟨#[215]⟩ : ByteArray) ++ t113).size + t115.size ≤ 9223372036854775807 then (some (((⟨#[215]⟩ : ByteArray) ++ t113) ++ t115, 0)) else (none)))) else (none)) = some (r1, r2) := H
    have A3 := Aside0.mk A30
    clear A30
    by_cases c4 : 1 + t113.size ≤ 9223372036854775807
    · rw [if_pos c4] at H
      have c4b0 := eq_true c4
      have c4b1 : decide (1 + t113.size ≤ 9223372036854775807) = true := decide_eq_true c4
      try have c4b2 : (9223372036854775807 < 1 + t113.size) = False := eq_false (Nat.not_lt.2 c4)
      replace H := Option.bind_eq_some_iff.mp H
      obtain ⟨t114, A50, H⟩ := H
      replace H : ((dovecoteref03_four.f t114).bind fun t115 => (if ((⟨#[215]⟩ : ByteArray) ++ t113).size + t115.size ≤ 9223372036854775807 then (some (((⟨#[215]⟩ : ByteArray) ++ t113) ++ t115, 0)) else (none))) = some (r1, r2) := H
      have A5 := Aside0.mk A50
      clear A50
      replace H := Option.bind_eq_some_iff.mp H
      obtain ⟨t115, A60, H⟩ := H
      replace H : (if ((⟨#[215]⟩ : ByteArray) ++ t113).size + t115.size ≤ 9223372036854775807 then (some (((⟨#[215]⟩ : ByteArray) ++ t113) ++ t115, 0)) else (none)) = some (r1, r2) := H
      have A6 := Aside0.mk A60
      clear A60
      by_cases c7 : ((⟨#[215]⟩ : ByteArray) ++ t113).size + t115.size ≤ 9223372036854775807
      · rw [if_pos c7] at H
        have c7b0 := eq_true c7
        have c7b1 : decide (((⟨#[215]⟩ : ByteArray) ++ t113).size + t115.size ≤ 9223372036854775807) = true := decide_eq_true c7
        try have c7b2 : (9223372036854775807 < ((⟨#[215]⟩ : ByteArray) ++ t113).size + t115.size) = False := eq_false (Nat.not_lt.2 c7)
        have c7b3 := c7b2
        repeat rw [ByteArray.size_append] at c7b3
        try rw [show ByteArray.size ⟨#[215]⟩ = 1 from rfl] at c7b3
        simp only [Option.some.injEq, Prod.mk.injEq] at H
        obtain ⟨rfl, rfl⟩ := H
        go_enter Try.func70, Try.ntmps70
        go_wp2_with (first | ((with_reducible refine gate_callee (f := 86) rfl ?_); refine goesL_ (some 9) rfl rfl Try.func86 (by kernel_rfl) rfl #[.string a0] rfl (by (try simp only [List.map_toArray, List.map_cons, List.map_nil]); first | done | rfl | (simp only [List.length_drop, List.length_take]; rfl)) ?_; (with_reducible refine (dovecoteref02_Text.calls a0 t113 _ A3.out).mono ?_); rintro e w8 ⟨rfl, hb⟩; refine ⟨_, rfl, ?_⟩; have n0_ := Aside0.mk (below_step (by repeat (first | (with_reducible first | exact HB.out | apply below_alloc | apply pw_below_drewN | apply below_drew1) | exact HB.out)) hb); clear HB; have HB := n0_; clear n0_; (try clear hb); (try clear hb2); (try clear hk); (try clear hi)) | ((with_reducible refine gate_callee (f := 88) rfl ?_); refine goesL_ (some 13) rfl rfl Try.func88 (by kernel_rfl) rfl #[.string t113] rfl (by (try simp only [List.map_toArray, List.map_cons, List.map_nil]); first | done | rfl | (simp only [List.length_drop, List.length_take]; rfl)) ?_; (with_reducible refine (dovecoteref03_Sum.calls k t113 t114 _ A5.out).mono ?_); rintro e w' ⟨rfl, ⟨nd, rfl⟩⟩; refine ⟨_, rfl, ?_⟩) | ((with_reducible refine gate_callee (f := 87) rfl ?_); refine goesL_ (some 14) rfl rfl Try.func87 (by kernel_rfl) rfl #[.int .u32 t114] rfl (by (try simp only [List.map_toArray, List.map_cons, List.map_nil]); first | done | rfl | (simp only [List.length_drop, List.length_take]; rfl)) ?_; (with_reducible refine (dovecoteref03_four.calls t114 t115 _ A6.out).mono ?_); rintro e w9 ⟨rfl, hb⟩; refine ⟨_, rfl, ?_⟩; have n0_ := Aside0.mk (below_step (by repeat (first | (with_reducible first | exact HB.out | apply below_alloc | apply pw_below_drewN | apply below_drew1) | exact HB.out)) hb); clear HB; have HB := n0_; clear n0_; (try clear hb); (try clear hb2); (try clear hk); (try clear hi)))
        go_ret2
        exact ⟨by first | rfl | (simp [errW_none, errW_some] <;> rfl) | (simp [*, errW_none, errW_some] <;> rfl), by repeat (first | (with_reducible first | exact HB.out | apply below_alloc | apply pw_below_drewN | apply below_drew1) | exact HB.out)⟩
      · rw [if_neg c7] at H
        exact absurd H (by simp)
    · rw [if_neg c4] at H
      exact absurd H (by simp)

end Go.Proofs.Ytccdmedhkbabpaa.PFr

/- Contracts of Go functions and what each computes, as plain Lean functions: written by a program of this session over the kit's own print. Conditions: those that each theorem names. -/
namespace Go.Proofs.Ytccdmedhkbabpaa.PFr
open Go.Proofs.Ytccdmedhkbabpaa Go.Proofs.Ytccdmedhkbabpaa.PRd
open Go.RowKit Go.Proofs.YtccdmedhkbabpaaW.PrintWords Go.Proofs.YtccdmedhkbabpaaW.PrintLast Go.Proofs.YtccdmedhkbabpaaW.PrintMore
attribute [local go_sem] max2_int min2_int max_two min_two max_three min_three max_four min_four   -- for this text's walks alone

/-- A state of type 123 at block g of W; what its slices lead to came in by w0. -/
def IsS123 (w0 W : World) (g : Nat) (f0 : ByteArray) (f1 : Int) : Prop := W.heap[g]? = some (.cells #[.string f0, .int .i64 f1] 123 (0, 0)) ∧ w0.heap.size ≤ g
theorem IsS123.grown {w0 W : World} {g : Nat} {f0 : ByteArray} {f1 : Int} {W1 : World} {row : Option Nat} (h : IsS123 w0 W g f0 f1) (hw : W.grownBy W1 row) (hne : some g ≠ row) : IsS123 w0 W1 g f0 f1 := by
  obtain ⟨hb, hg⟩ := h
  exact ⟨blk_grown hb hw hne, hg⟩
theorem IsS123.kept {w0 W : World} {g : Nat} {f0 : ByteArray} {f1 : Int} {W1 : World} {S : Nat → Prop} (h : IsS123 w0 W g f0 f1) (hk : Kept W W1 S) (hne : ¬ S g) : IsS123 w0 W1 g f0 f1 := by
  obtain ⟨hb, hg⟩ := h
  exact ⟨blk_kept hb hk hne, hg⟩
theorem IsS123.below {w0 W : World} {g : Nat} {f0 : ByteArray} {f1 : Int} {W1 : World} (h : IsS123 w0 W g f0 f1) (hw : Below W.heap.size W W1) : IsS123 w0 W1 g f0 f1 := h.grown (grown_of_below hw none) (by simp)
theorem IsS123.alloc {w0 W : World} {g : Nat} {f0 : ByteArray} {f1 : Int} (h : IsS123 w0 W g f0 f1) (o : Obj) : IsS123 w0 (W.alloc o) g f0 f1 := h.below (below_alloc (Below.refl _ _) o)
theorem IsS123.drewN {w0 W : World} {g : Nat} {f0 : ByteArray} {f1 : Int} (h : IsS123 w0 W g f0 f1) (m : Nat) : IsS123 w0 (W.drewN m) g f0 f1 := h
theorem IsS123.drew {w0 W : World} {g : Nat} {f0 : ByteArray} {f1 : Int} (h : IsS123 w0 W g f0 f1) : IsS123 w0 W.drew g f0 f1 := h
theorem IsS123.at_ {w0 W : World} {g : Nat} {f0 : ByteArray} {f1 : Int} {w' : World} {m : Nat} (hq : W.drewN m = w') (h : IsS123 w0 W g f0 f1) : IsS123 w0 w' g f0 f1 := by subst hq; exact IsS123.drewN h m
theorem IsS123.apart {w0 W : World} {g : Nat} {f0 : ByteArray} {f1 : Int} {α : Type} {d : Kd α} {e : Nat} {base : Nat} {ok : Nat → Prop} {v : Value} {xs : List α} (h : IsS123 w0 W g f0 f1) (ho : d.R e W base ok v xs) (ht : ∀ q, q ∈ e :: d.E → q ≠ 123) : d.R e W base (fun k => ok k ∧ k ≠ g) v xs := by
  obtain ⟨hb, hg⟩ := h
  exact Kd.R_types ho hb ht
theorem IsS123.own_ne {w0 W : World} {g : Nat} {f0 : ByteArray} {f1 : Int} {α : Type} {d : Kd α} {e : Nat} {base : Nat} {ok : Nat → Prop} {v : Value} {xs : List α} (h : IsS123 w0 W g f0 f1) (ho : d.R e W base ok v xs) (ht : e ≠ 123) : some g ≠ v.ownBlock := by
  obtain ⟨hb, hg⟩ := h
  exact Kd.R_ne ho hb ht
theorem IsS123.lt {w0 W : World} {g : Nat} {f0 : ByteArray} {f1 : Int} (h : IsS123 w0 W g f0 f1) : g < W.heap.size := by
  obtain ⟨hb, hg⟩ := h
  exact blk_lt hb
theorem IsS123.ge {w0 W : World} {g : Nat} {f0 : ByteArray} {f1 : Int} (h : IsS123 w0 W g f0 f1) : w0.heap.size ≤ g := by
  obtain ⟨hb, hg⟩ := h
  exact hg
theorem IsS123.far {w0 W : World} {g : Nat} {f0 : ByteArray} {f1 : Int} {p : Addr} (h : IsS123 w0 W g f0 f1) (hne : g ≠ p.block) (u : Value) : IsS123 w0 (W.setCell p u) g f0 f1 := by
  obtain ⟨hb, hg⟩ := h
  exact ⟨blk_far hb hne u, hg⟩
theorem cellS123_0 {W : World} {g : Nat} {f0 : ByteArray} {f1 : Int} (h : W.heap[g]? = some (.cells #[.string f0, .int .i64 f1] 123 (0, 0))) : W.cell? ⟨g, 0, none⟩ = some (.string f0) := (blk_cell h 0).trans rfl
theorem IsS123.set_0 {w0 W : World} {g : Nat} {f0 : ByteArray} {f1 : Int} (h : IsS123 w0 W g f0 f1) (x : ByteArray) : IsS123 w0 (W.setCell ⟨g, 0, none⟩ (.string x)) g x f1 := by
  obtain ⟨hb, hg⟩ := h
  exact ⟨by simpa using blk_set hb 0 (.string x), hg⟩
theorem cellS123_1 {W : World} {g : Nat} {f0 : ByteArray} {f1 : Int} (h : W.heap[g]? = some (.cells #[.string f0, .int .i64 f1] 123 (0, 0))) : W.cell? ⟨g, 1, none⟩ = some (.int .i64 f1) := (blk_cell h 1).trans rfl
theorem IsS123.set_1 {w0 W : World} {g : Nat} {f0 : ByteArray} {f1 : Int} (h : IsS123 w0 W g f0 f1) (x : Int) : IsS123 w0 (W.setCell ⟨g, 1, none⟩ (.int .i64 x)) g f0 x := by
  obtain ⟨hb, hg⟩ := h
  exact ⟨by simpa using blk_set hb 1 (.int .i64 x), hg⟩
theorem IsS123.new (w0 W : World) (f0 : ByteArray) (f1 : Int) (hB : Below w0.heap.size w0 W) : IsS123 w0 (W.alloc (.cells #[.string f0, .int .i64 f1] 123)) W.heap.size f0 f1 := ⟨by simpa using heap_alloc_new W _, hB.size⟩

/-! ### dovecoteref02_Reader_fail: function 85 -/
def dovecoteref02_Reader_fail.f (s0_0 : ByteArray) (s0_1 : Int) (a1 : Int) : Option (ByteArray × Int) := some ((⟨#[]⟩ : ByteArray), a1)
set_option maxHeartbeats 8000000 in
set_option maxRecDepth 100000 in
theorem dovecoteref02_Reader_fail.calls (g : Nat) (s0_0 : ByteArray) (s0_1 : Int) (a1 : Int) (r1 : ByteArray) (r2 : Int) (w0 w : World) (hI : IsS123 w0 w g s0_0 s0_1) (hB : Below w0.heap.size w0 w) (h : dovecoteref02_Reader_fail.f s0_0 s0_1 a1 = some (r1, r2)) :
    Calls Try.prog 85 #[.pointer (some ⟨g, 0, none⟩), .int .i64 a1] w fun e w' => e = .returned (.tuple #[]) ∧ IsS123 w0 w' g r1 r2 ∧ Below w0.heap.size w0 w' ∧ KeepBut w w' g none := by
  have HI0 := Aside0.mk hI
  have HK := Aside0.mk (KeepBut.refl w g none)
  have HL := Aside0.mk hB.size
  clear hI
  have HW0 := Aside0.mk hB.size
  have HB := Aside0.mk hB
  clear hB
  have H : (some ((⟨#[]⟩ : ByteArray), a1)) = some (r1, r2) := h
  clear h
  simp only [Option.some.injEq, Prod.mk.injEq] at H
  obtain ⟨rfl, rfl⟩ := H
  obtain ⟨HGz3, hgz3⟩ := HI0.out
  have hcz3_0 := cellS123_0 HGz3
  have hcz3_1 := cellS123_1 HGz3
  have hfz3_0 := blk_frozen HGz3 0
  have hfz3_1 := blk_frozen HGz3 1
  clear HGz3 hgz3
  go_enter Try.func85, Try.ntmps85
  go_wp2
  first | go_end0 | ((try simp only [Exit.inBlock, Exit.then]); refine bodyPost_ret (results_none rfl _ _ _) rfl ?_)
  exact ⟨by first | rfl | (simp [errW_none, errW_some] <;> rfl) | (simp [*, errW_none, errW_some] <;> rfl), by repeat (first | (with_reducible first | exact HI0.out | apply IsS123.alloc | apply IsS123.drewN | apply IsS123.drew | apply IsS123.set_0 | apply IsS123.set_1) | exact HI0.out), by repeat (first | (with_reducible first | exact HB.out | apply below_alloc | apply pw_below_drewN | apply below_drew1 | refine below_set ?_ (IsS123.ge HI0.out)) | exact HB.out), by repeat (first | (with_reducible first | exact HK.out | apply KeepBut.set_ | apply keep_drewN | apply keep_drew | apply keep_alloc) | exact HK.out)⟩

/-! ### dovecoteref02_Reader_Number: function 64 -/
def dovecoteref02_Reader_Number.l0 : Nat → Int → Int → Int → Int → ByteArray → Int → Option (Int × ByteArray × Int)
  | 0, _, _, _, _, _, _ => none
  | k + 1, x1, x5, x7, x8, x1000, x1001 => if x8 ≤ x7 then (if 0 ≤ x8 then (if x8 < (x1000.size : Int) then (dovecoteref02_Reader_Number.l0 k x1 (IntKind.u64.wrap ((IntKind.u64.wrap (x5 * 256)) + (IntKind.u64.wrap (bt x1000 x8)))) x7 (wrap64 (x8 + 1)) x1000 x1001) else (none)) else (none)) else ((dovecoteref02_Number.f x5).bind fun t120 => (if (t120.size : Int) = (wrap64 (1 + x7)) then (if x5 > x1 then ((dovecoteref02_Reader_fail.f x1000 x1001 3).bind fun bt121 => (some (0, bt121.1, bt121.2))) else (if 0 ≤ (wrap64 (1 + x7)) then (if (wrap64 (1 + x7)) ≤ (x1000.size : Int) then (some (x5, x1000.extract ((wrap64 (1 + x7)) : Int).toNat x1000.size, x1001)) else (none)) else (none))) else ((dovecoteref02_Reader_fail.f x1000 x1001 2).bind fun bt123 => (some (0, bt123.1, bt123.2)))))
def dovecoteref02_Reader_Number.f (k : Nat) (s0_0 : ByteArray) (s0_1 : Int) (a1 : Int) : Option (Int × ByteArray × Int) := if s0_1 = 0 then (if s0_0.toList = ([] : List UInt8) then ((dovecoteref02_Reader_fail.f s0_0 s0_1 4).bind fun bt116 => (some (0, bt116.1, bt116.2))) else (if 0 < (s0_0.size : Int) then (if (IntKind.u64.wrap (bt s0_0 0)) > 247 then (if (s0_0.size : Int) < (wrap64 (1 + (wrap64 ((wrap64 (IntKind.u64.wrap (bt s0_0 0))) - 247)))) then ((dovecoteref02_Reader_fail.f s0_0 s0_1 4).bind fun bt118 => (some (0, bt118.1, bt118.2))) else (dovecoteref02_Reader_Number.l0 k a1 0 (wrap64 ((wrap64 (IntKind.u64.wrap (bt s0_0 0))) - 247)) 1 s0_0 s0_1)) else (if (IntKind.u64.wrap (bt s0_0 0)) > a1 then ((dovecoteref02_Reader_fail.f s0_0 s0_1 3).bind fun bt125 => (some (0, bt125.1, bt125.2))) else (if 1 ≤ (s0_0.size : Int) then (some (IntKind.u64.wrap (bt s0_0 0), s0_0.extract 1 s0_0.size, s0_1)) else (none)))) else (none))) else (some (0, s0_0, s0_1))
theorem dovecoteref02_Reader_Number.mono_l : ∀ k, (∀ y0 y1 y2 y3 y4 y5, LeO (dovecoteref02_Reader_Number.l0 k y0 y1 y2 y3 y4 y5) (dovecoteref02_Reader_Number.l0 (k + 1) y0 y1 y2 y3 y4 y5))
  | 0 => fun _ _ _ _ _ _ r h => by simp [dovecoteref02_Reader_Number.l0] at h
  | k + 1 => by
    have ih0 := dovecoteref02_Reader_Number.mono_l k
    · intro y0 y1 y2 y3 y4 y5
      unfold dovecoteref02_Reader_Number.l0
      repeat' first
      | (with_reducible exact ih0 _ _ _ _ _ _)
      | (with_reducible exact LeO.refl _)
      | (with_reducible exact LeO.none _)
      | (with_reducible refine LeO.ite ?_ ?_)
      | (with_reducible refine LeO.bind ?_ (fun _ => ?_))
      | exact ih0 _ _ _ _ _ _
      | exact LeO.none _
      | refine LeO.ite ?_ ?_
      | refine LeO.bind ?_ (fun _ => ?_)
theorem dovecoteref02_Reader_Number.mono : ∀ a0 a1 a2 k, LeO (dovecoteref02_Reader_Number.f k a0 a1 a2) (dovecoteref02_Reader_Number.f (k + 1) a0 a1 a2) := by
  intro a0 a1 a2 k
  have ih0 := dovecoteref02_Reader_Number.mono_l k
  unfold dovecoteref02_Reader_Number.f
  repeat' first
      | (with_reducible exact ih0 _ _ _ _ _ _)
      | (with_reducible exact LeO.refl _)
      | (with_reducible exact LeO.none _)
      | (with_reducible refine LeO.ite ?_ ?_)
      | (with_reducible refine LeO.bind ?_ (fun _ => ?_))
      | exact ih0 _ _ _ _ _ _
      | exact LeO.none _
      | refine LeO.ite ?_ ?_
      | refine LeO.bind ?_ (fun _ => ?_)
set_option maxHeartbeats 8000000 in
set_option maxRecDepth 100000 in
theorem dovecoteref02_Reader_Number.calls (k : Nat) (g : Nat) (s0_0 : ByteArray) (s0_1 : Int) (a1 : Int) (r1 : Int) (r2 : ByteArray) (r3 : Int) (w0 w : World) (hI : IsS123 w0 w g s0_0 s0_1) (hB : Below w0.heap.size w0 w) (h : dovecoteref02_Reader_Number.f k s0_0 s0_1 a1 = some (r1, r2, r3)) :
    Calls Try.prog 64 #[.pointer (some ⟨g, 0, none⟩), .int .u64 a1] w fun e w' => e = .returned (.int .u64 r1) ∧ IsS123 w0 w' g r2 r3 ∧ Below w0.heap.size w0 w' ∧ KeepBut w w' g none := by
  have HI0 := Aside0.mk hI
  have HK := Aside0.mk (KeepBut.refl w g none)
  have HL := Aside0.mk hB.size
  clear hI
  have HW0 := Aside0.mk hB.size
  have HB := Aside0.mk hB
  clear hB
  have H : (if s0_1 = 0 then (if s0_0.toList = ([] : List UInt8) then ((dovecoteref02_Reader_fail.f s0_0 s0_1 4).bind fun bt116 => (some (0, bt116.1, bt116.2))) else (if 0 < (s0_0.size : Int) then (if (IntKind.u64.wrap (bt s0_0 0)) > 247 then (if (s0_0.size : Int) < (wrap64 (1 + (wrap64 ((wrap64 (IntKind.u64.wrap (bt s0_0 0))) - 247)))) then ((dovecoteref02_Reader_fail.f s0_0 s0_1 4).bind fun bt118 => (some (0, bt118.1, bt118.2))) else (dovecoteref02_Reader_Number.l0 k a1 0 (wrap64 ((wrap64 (IntKind.u64.wrap (bt s0_0 0))) - 247)) 1 s0_0 s0_1)) else (if (IntKind.u64.wrap (bt s0_0 0)) > a1 then ((dovecoteref02_Reader_fail.f s0_0 s0_1 3).bind fun bt125 => (some (0, bt125.1, bt125.2))) else (if 1 ≤ (s0_0.size : Int) then (some (IntKind.u64.wrap (bt s0_0 0), s0_0.extract 1 s0_0.size, s0_1)) else (none)))) else (none))) else (some (0, s0_0, s0_1))) = some (r1, r2, r3) := h
  clear h
  by_cases c3 : s0_1 = 0
  · rw [if_pos c3] at H
    have c3b0 : (s0_1 == 0) = true := beq_iff_eq.mpr c3
    have c3b1 : (s0_1 != 0) = false := bne_eq_false_iff_eq.mpr c3
    clear c3
    by_cases c4 : s0_0.toList = ([] : List UInt8)
    · rw [if_pos c4] at H
      have c4b0 : (s0_0.toList == ([] : List UInt8)) = true := beq_iff_eq.mpr c4
      have c4b1 : (s0_0.toList != ([] : List UInt8)) = false := bne_eq_false_iff_eq.mpr c4
      clear c4
      replace H := Option.bind_eq_some_iff.mp H
      obtain ⟨⟨t116, t117⟩, A50, H⟩ := H
      replace H : (some (0, t116, t117)) = some (r1, r2, r3) := H
      have A5 := Aside0.mk A50
      clear A50
      simp only [Option.some.injEq, Prod.mk.injEq] at H
      obtain ⟨rfl, rfl, rfl⟩ := H
      obtain ⟨HGz6, hgz6⟩ := HI0.out
      have hcz6_0 := cellS123_0 HGz6
      have hcz6_1 := cellS123_1 HGz6
      have hfz6_0 := blk_frozen HGz6 0
      have hfz6_1 := blk_frozen HGz6 1
      clear HGz6 hgz6
      go_enter Try.func64, Try.ntmps64
      go_wp2_with (first | ((with_reducible refine gate_callee (f := 85) rfl ?_); refine goesL_ (some 20) rfl rfl Try.func85 (by kernel_rfl) rfl #[.pointer (some ⟨g, 0, none⟩), .int .i64 4] rfl (by (try simp only [List.map_toArray, List.map_cons, List.map_nil]); first | done | rfl | (simp only [List.length_drop, List.length_take]; rfl)) ?_; (with_reducible refine (dovecoteref02_Reader_fail.calls g s0_0 s0_1 4 t116 t117 w0 _ ?side1 ?side2 A5.out).mono ?_); (case side1 => repeat (first | (with_reducible first | exact HI0.out | apply IsS123.alloc | apply IsS123.drewN | apply IsS123.drew | apply IsS123.set_0 | apply IsS123.set_1) | exact HI0.out)); (case side2 => repeat (first | (with_reducible first | exact HB.out | apply below_alloc | apply pw_below_drewN | apply below_drew1 | refine below_set ?_ (IsS123.ge HI0.out)) | exact HB.out)); rintro e w7 ⟨rfl, hi, hb, hk⟩; refine ⟨_, rfl, ?_⟩; have n0_ := Aside0.mk (KeepBut.trans (by repeat (first | (with_reducible first | exact HK.out | apply KeepBut.set_ | apply keep_drewN | apply keep_drew | apply keep_alloc) | exact HK.out)) hk (.inl rfl)); have n1_ := Aside0.mk (hb); have n2_ := Aside0.mk (hi); clear HK; clear HB; clear HI0; have HK := n0_; have HB := n1_; have HI0 := n2_; clear n0_ n1_ n2_; (try clear hb); (try clear hb2); (try clear hk); (try clear hi)))
      go_ret
      exact ⟨by first | rfl | (simp [errW_none, errW_some] <;> rfl) | (simp [*, errW_none, errW_some] <;> rfl), by repeat (first | (with_reducible first | exact HI0.out | apply IsS123.alloc | apply IsS123.drewN | apply IsS123.drew | apply IsS123.set_0 | apply IsS123.set_1) | exact HI0.out), by repeat (first | (with_reducible first | exact HB.out | apply below_alloc | apply pw_below_drewN | apply below_drew1 | refine below_set ?_ (IsS123.ge HI0.out)) | exact HB.out), by repeat (first | (with_reducible first | exact HK.out | apply KeepBut.set_ | apply keep_drewN | apply keep_drew | apply keep_alloc) | exact HK.out)⟩
    · rw [if_neg c4] at H
      have c4b0 : (s0_0.toList == ([] : List UInt8)) = false := beq_eq_false_iff_ne.mpr c4
      have c4b1 : (s0_0.toList != ([] : List UInt8)) = true := bne_iff_ne.mpr c4
      by_cases c8 : 0 < (s0_0.size : Int)
      · rw [if_pos c8] at H
        have c8b0 : decide (0 < (s0_0.size : Int)) = true := decide_eq_true c8
        have c8b1 : decide (0 < s0_0.size) = true := decide_eq_true (by omega)
        clear c8
        by_cases c10 : (IntKind.u64.wrap (bt s0_0 0)) > 247
        · rw [if_pos c10] at H
          have c10b0 : decide (247 < (IntKind.u64.wrap (bt s0_0 0))) = true := decide_eq_true c10
          clear c10
          by_cases c11 : (s0_0.size : Int) < (wrap64 (1 + (wrap64 ((wrap64 (IntKind.u64.wrap (bt s0_0 0))) - 247))))
          · rw [if_pos c11] at H
            have c11b0 : decide ((s0_0.size : Int) < (wrap64 (1 + (wrap64 ((wrap64 (IntKind.u64.wrap (bt s0_0 0))) - 247))))) = true := decide_eq_true c11
            clear c11
            replace H := Option.bind_eq_some_iff.mp H
            obtain ⟨⟨t118, t119⟩, A120, H⟩ := H
            replace H : (some (0, t118, t119)) = some (r1, r2, r3) := H
            have A12 := Aside0.mk A120
            clear A120
            simp only [Option.some.injEq, Prod.mk.injEq] at H
            obtain ⟨rfl, rfl, rfl⟩ := H
            obtain ⟨HGz13, hgz13⟩ := HI0.out
            have hcz13_0 := cellS123_0 HGz13
            have hcz13_1 := cellS123_1 HGz13
            have hfz13_0 := blk_frozen HGz13 0
            have hfz13_1 := blk_frozen HGz13 1
            clear HGz13 hgz13
            have p9 : 0 ≤ (0 : Int) := (by omega)
            have q9 : 0 < s0_0.size := (by have : (0 : Int) < (s0_0.size : Int) := of_decide_eq_true (by first | (with_reducible assumption) | assumption); omega)
            have hx9 : ∀ h : 0 < s0_0.size, ((s0_0[0]'h).toNat : Int) = bt s0_0 0 := bt_at s0_0 0
            clear p9
            have qi9 : (0 < (s0_0.size : Int)) = True := eq_true (of_decide_eq_true (by first | (with_reducible assumption) | assumption))
            replace q9 := eq_true q9
            go_enter Try.func64, Try.ntmps64
            go_wp2_with (first | ((with_reducible refine gate_callee (f := 85) rfl ?_); refine goesL_ (some 41) rfl rfl Try.func85 (by kernel_rfl) rfl #[.pointer (some ⟨g, 0, none⟩), .int .i64 4] rfl (by (try simp only [List.map_toArray, List.map_cons, List.map_nil]); first | done | rfl | (simp only [List.length_drop, List.length_take]; rfl)) ?_; (with_reducible refine (dovecoteref02_Reader_fail.calls g s0_0 s0_1 4 t118 t119 w0 _ ?side1 ?side2 A12.out).mono ?_); (case side1 => repeat (first | (with_reducible first | exact HI0.out | apply IsS123.alloc | apply IsS123.drewN | apply IsS123.drew | apply IsS123.set_0 | apply IsS123.set_1) | exact HI0.out)); (case side2 => repeat (first | (with_reducible first | exact HB.out | apply below_alloc | apply pw_below_drewN | apply below_drew1 | refine below_set ?_ (IsS123.ge HI0.out)) | exact HB.out)); rintro e w14 ⟨rfl, hi, hb, hk⟩; refine ⟨_, rfl, ?_⟩; have n0_ := Aside0.mk (KeepBut.trans (by repeat (first | (with_reducible first | exact HK.out | apply KeepBut.set_ | apply keep_drewN | apply keep_drew | apply keep_alloc) | exact HK.out)) hk (.inl rfl)); have n1_ := Aside0.mk (hb); have n2_ := Aside0.mk (hi); clear HK; clear HB; clear HI0; have HK := n0_; have HB := n1_; have HI0 := n2_; clear n0_ n1_ n2_; (try clear hb); (try clear hb2); (try clear hk); (try clear hi)))
            go_ret
            exact ⟨by first | rfl | (simp [errW_none, errW_some] <;> rfl) | (simp [*, errW_none, errW_some] <;> rfl), by repeat (first | (with_reducible first | exact HI0.out | apply IsS123.alloc | apply IsS123.drewN | apply IsS123.drew | apply IsS123.set_0 | apply IsS123.set_1) | exact HI0.out), by repeat (first | (with_reducible first | exact HB.out | apply below_alloc | apply pw_below_drewN | apply below_drew1 | refine below_set ?_ (IsS123.ge HI0.out)) | exact HB.out), by repeat (first | (with_reducible first | exact HK.out | apply KeepBut.set_ | apply keep_drewN | apply keep_drew | apply keep_alloc) | exact HK.out)⟩
          · rw [if_neg c11] at H
            have c11b0 : decide ((s0_0.size : Int) < (wrap64 (1 + (wrap64 ((wrap64 (IntKind.u64.wrap (bt s0_0 0))) - 247))))) = false := decide_eq_false c11
            clear c11
            have H' := Aside0.mk H
            clear H
            obtain ⟨HGz15, hgz15⟩ := HI0.out
            have hcz15_0 := cellS123_0 HGz15
            have hcz15_1 := cellS123_1 HGz15
            have hfz15_0 := blk_frozen HGz15 0
            have hfz15_1 := blk_frozen HGz15 1
            clear HGz15 hgz15
            have p9 : 0 ≤ (0 : Int) := (by omega)
            have q9 : 0 < s0_0.size := (by have : (0 : Int) < (s0_0.size : Int) := of_decide_eq_true (by first | (with_reducible assumption) | assumption); omega)
            have hx9 : ∀ h : 0 < s0_0.size, ((s0_0[0]'h).toNat : Int) = bt s0_0 0 := bt_at s0_0 0
            clear p9
            have qi9 : (0 < (s0_0.size : Int)) = True := eq_true (of_decide_eq_true (by first | (with_reducible assumption) | assumption))
            replace q9 := eq_true q9
            go_enter Try.func64, Try.ntmps64
            go_wp2
            go_loopg [5, 8] k (fun kq v5 v8 w' => ∃ (x5_1 : Int) (x8_1 : Int), v5 = .int .u64 x5_1 ∧ v8 = .int .i64 x8_1 ∧ Aside0 (dovecoteref02_Reader_Number.l0 kq a1 x5_1 (wrap64 ((wrap64 (IntKind.u64.wrap (bt s0_0 0))) - 247)) x8_1 s0_0 s0_1 = some (r1, r2, r3)) ∧ Aside0 (kq ≤ k) ∧ Aside0 (IsS123 w0 w' g s0_0 s0_1) ∧ Aside0 (KeepBut w w' g none) ∧ Aside0 (Below w0.heap.size w0 w'))
            case atStart => exact ⟨(0), (1), (by first | rfl | (simp; done) | (simp [*]; done)), (by first | rfl | (simp; done) | (simp [*]; done)), H', ⟨Nat.le_refl _⟩, ⟨by repeat (first | (with_reducible first | exact HI0.out | apply IsS123.alloc | apply IsS123.drewN | apply IsS123.drew | apply IsS123.set_0 | apply IsS123.set_1) | exact HI0.out)⟩, ⟨by repeat (first | (with_reducible first | exact HK.out | apply KeepBut.set_ | apply keep_drewN | apply keep_drew | apply keep_alloc) | exact HK.out)⟩, ⟨by repeat (first | (with_reducible first | exact HB.out | apply below_alloc | apply pw_below_drewN | apply below_drew1 | refine below_set ?_ (IsS123.ge HI0.out)) | exact HB.out)⟩⟩
            case round =>
              clear H'
              try clear c1
              try clear p2
              try clear c3
              try clear c3b0
              try clear c3b1
              try clear c4
              try clear c4b0
              try clear c4b1
              try clear c6
              try clear p6
              try clear c8
              try clear c8b0
              try clear c8b1
              try clear p9
              try clear q9
              try clear hx9
              try clear qi9
              try clear c10
              try clear c10b0
              try clear c11
              try clear c11b0
              try clear hcz13_0
              try clear hcz13_1
              try clear hcz15_0
              try clear hcz15_1
              try clear hcz6_0
              try clear hcz6_1
              try clear hfz13_0
              try clear hfz13_1
              try clear hfz15_0
              try clear hfz15_1
              try clear hfz6_0
              try clear hfz6_1
              try clear p9
              try clear q9
              obtain ⟨x5_1, x8_1, rfl, rfl, HA, HK1, HI0, HK, HB⟩ := hrel
              cases gk with
              | zero => exact absurd HA.out (by simp [dovecoteref02_Reader_Number.l0])
              | succ k1 =>
                have H := HA.out
                clear HA
                simp only [dovecoteref02_Reader_Number.l0] at H
                by_cases c16 : x8_1 ≤ (wrap64 ((wrap64 (IntKind.u64.wrap (bt s0_0 0))) - 247))
                · rw [if_pos c16] at H
                  have c16b0 : decide (x8_1 ≤ (wrap64 ((wrap64 (IntKind.u64.wrap (bt s0_0 0))) - 247))) = true := decide_eq_true c16
                  clear c16
                  by_cases c17 : 0 ≤ x8_1
                  · rw [if_pos c17] at H
                    have c17b0 : decide (0 ≤ x8_1) = true := decide_eq_true c17
                    clear c17
                    by_cases c18 : x8_1 < (s0_0.size : Int)
                    · rw [if_pos c18] at H
                      have c18b0 : decide (x8_1 < (s0_0.size : Int)) = true := decide_eq_true c18
                      clear c18
                      have H' := Aside0.mk H
                      clear H
                      obtain ⟨HGz20, hgz20⟩ := HI0.out
                      have hcz20_0 := cellS123_0 HGz20
                      have hcz20_1 := cellS123_1 HGz20
                      have hfz20_0 := blk_frozen HGz20 0
                      have hfz20_1 := blk_frozen HGz20 1
                      clear HGz20 hgz20
                      have p19 : 0 ≤ (x8_1 : Int) := of_decide_eq_true (by first | (with_reducible assumption) | assumption)
                      have q19 : x8_1 < (s0_0.size : Int) := of_decide_eq_true (by first | (with_reducible assumption) | assumption)
                      have hx19 := bt_at s0_0 x8_1
                      replace p19 := eq_true p19
                      replace q19 := eq_true q19
                      go_wp2
                      go_roundg k1
                      case measure => have := HK1.out; omega
                      case rel => exact ⟨(IntKind.u64.wrap ((IntKind.u64.wrap (x5_1 * 256)) + (IntKind.u64.wrap (bt s0_0 x8_1)))), (wrap64 (x8_1 + 1)), (by first | rfl | (simp; done) | (simp [*]; done)), (by first | rfl | (simp; done) | (simp [*]; done)), H', ⟨by have := HK1.out; omega⟩, ⟨by repeat (first | (with_reducible first | exact HI0.out | apply IsS123.alloc | apply IsS123.drewN | apply IsS123.drew | apply IsS123.set_0 | apply IsS123.set_1) | exact HI0.out)⟩, ⟨by repeat (first | (with_reducible first | exact HK.out | apply KeepBut.set_ | apply keep_drewN | apply keep_drew | apply keep_alloc) | exact HK.out)⟩, ⟨by repeat (first | (with_reducible first | exact HB.out | apply below_alloc | apply pw_below_drewN | apply below_drew1 | refine below_set ?_ (IsS123.ge HI0.out)) | exact HB.out)⟩⟩
                    · rw [if_neg c18] at H
                      exact absurd H (by simp)
                  · rw [if_neg c17] at H
                    exact absurd H (by simp)
                · rw [if_neg c16] at H
                  have c16b0 : decide (x8_1 ≤ (wrap64 ((wrap64 (IntKind.u64.wrap (bt s0_0 0))) - 247))) = false := decide_eq_false c16
                  clear c16
                  replace H := Option.bind_eq_some_iff.mp H
                  obtain ⟨t120, A210, H⟩ := H
                  replace H : (if (t120.size : Int) = (wrap64 (1 + (wrap64 ((wrap64 (IntKind.u64.wrap (bt s0_0 0))) - 247)))) then (if x5_1 > a1 then ((dovecoteref02_Reader_fail.f s0_0 s0_1 3).bind fun bt121 => (some (0, bt121.1, bt121.2))) else (if 0 ≤ (wrap64 (1 + (wrap64 ((wrap64 (IntKind.u64.wrap (bt s0_0 0))) - 247)))) then (if (wrap64 (1 + (wrap64 ((wrap64 (IntKind.u64.wrap (bt s0_0 0))) - 247)))) ≤ (s0_0.size : Int) then (some (x5_1, s0_0.extract ((wrap64 (1 + (wrap64 ((wrap64 (IntKind.u64.wrap (bt s0_0 0))) - 247)))) : Int).toNat s0_0.size, s0_1)) else (none)) else (none))) else ((dovecoteref02_Reader_fail.f s0_0 s0_1 2).bind fun bt123 => (some (0, bt123.1, bt123.2)))) = some (r1, r2, r3) := H
                  have A21 := Aside0.mk A210
                  clear A210
                  by_cases c22 : (t120.size : Int) = (wrap64 (1 + (wrap64 ((wrap64 (IntKind.u64.wrap (bt s0_0 0))) - 247))))
                  · rw [if_pos c22] at H
                    have c22b0 : ((t120.size : Int) == (wrap64 (1 + (wrap64 ((wrap64 (IntKind.u64.wrap (bt s0_0 0))) - 247))))) = true := beq_iff_eq.mpr c22
                    have c22b1 : ((t120.size : Int) != (wrap64 (1 + (wrap64 ((wrap64 (IntKind.u64.wrap (bt s0_0 0))) - 247))))) = false := bne_eq_false_iff_eq.mpr c22
                    clear c22
                    by_cases c23 : x5_1 > a1
                    · rw [if_pos c23] at H
                      have c23b0 : decide (a1 < x5_1) = true := decide_eq_true c23
                      clear c23
                      replace H := Option.bind_eq_some_iff.mp H
                      obtain ⟨⟨t121, t122⟩, A240, H⟩ := H
                      replace H : (some (0, t121, t122)) = some (r1, r2, r3) := H
                      have A24 := Aside0.mk A240
                      clear A240
                      simp only [Option.some.injEq, Prod.mk.injEq] at H
                      obtain ⟨rfl, rfl, rfl⟩ := H
                      go_wp2_with (first | ((with_reducible refine gate_callee (f := 67) rfl ?_); refine goesL_ (some 58) rfl rfl Try.func67 (by kernel_rfl) rfl #[.int .u64 x5_1] rfl (by (try simp only [List.map_toArray, List.map_cons, List.map_nil]); first | done | rfl | (simp only [List.length_drop, List.length_take]; rfl)) ?_; (with_reducible refine (dovecoteref02_Number.calls x5_1 t120 _ A21.out).mono ?_); rintro e w25 ⟨rfl, hb⟩; refine ⟨_, rfl, ?_⟩; have n0_ := Aside0.mk (IsS123.below (by repeat (first | (with_reducible first | exact HI0.out | apply IsS123.alloc | apply IsS123.drewN | apply IsS123.drew | apply IsS123.set_0 | apply IsS123.set_1) | exact HI0.out)) hb); have n1_ := Aside0.mk (KeepBut.trans (by repeat (first | (with_reducible first | exact HK.out | apply KeepBut.set_ | apply keep_drewN | apply keep_drew | apply keep_alloc) | exact HK.out)) (KeepBut.of_below hb g none) (.inl rfl)); have n2_ := Aside0.mk (below_step (by repeat (first | (with_reducible first | exact HB.out | apply below_alloc | apply pw_below_drewN | apply below_drew1 | refine below_set ?_ (IsS123.ge HI0.out)) | exact HB.out)) hb); clear HI0; clear HK; clear HB; have HI0 := n0_; have HK := n1_; have HB := n2_; clear n0_ n1_ n2_; (try clear hb); (try clear hb2); (try clear hk); (try clear hi)) | ((with_reducible refine gate_callee (f := 85) rfl ?_); refine goesL_ (some 71) rfl rfl Try.func85 (by kernel_rfl) rfl #[.pointer (some ⟨g, 0, none⟩), .int .i64 3] rfl (by (try simp only [List.map_toArray, List.map_cons, List.map_nil]); first | done | rfl | (simp only [List.length_drop, List.length_take]; rfl)) ?_; (with_reducible refine (dovecoteref02_Reader_fail.calls g s0_0 s0_1 3 t121 t122 w0 _ ?side1 ?side2 A24.out).mono ?_); (case side1 => repeat (first | (with_reducible first | exact HI0.out | apply IsS123.alloc | apply IsS123.drewN | apply IsS123.drew | apply IsS123.set_0 | apply IsS123.set_1) | exact HI0.out)); (case side2 => repeat (first | (with_reducible first | exact HB.out | apply below_alloc | apply pw_below_drewN | apply below_drew1 | refine below_set ?_ (IsS123.ge HI0.out)) | exact HB.out)); rintro e w26 ⟨rfl, hi, hb, hk⟩; refine ⟨_, rfl, ?_⟩; have n0_ := Aside0.mk (KeepBut.trans (by repeat (first | (with_reducible first | exact HK.out | apply KeepBut.set_ | apply keep_drewN | apply keep_drew | apply keep_alloc) | exact HK.out)) hk (.inl rfl)); have n1_ := Aside0.mk (hb); have n2_ := Aside0.mk (hi); clear HK; clear HB; clear HI0; have HK := n0_; have HB := n1_; have HI0 := n2_; clear n0_ n1_ n2_; (try clear hb); (try clear hb2); (try clear hk); (try clear hi)))
                      go_ret
                      exact ⟨by first | rfl | (simp [errW_none, errW_some] <;> rfl) | (simp [*, errW_none, errW_some] <;> rfl), by repeat (first | (with_reducible first | exact HI0.out | apply IsS123.alloc | apply IsS123.drewN | apply IsS123.drew | apply IsS123.set_0 | apply IsS123.set_1) | exact HI0.out), by repeat (first | (with_reducible first | exact HB.out | apply below_alloc | apply pw_below_drewN | apply below_drew1 | refine below_set ?_ (IsS123.ge HI0.out)) | exact HB.out), by repeat (first | (with_reducible first | exact HK.out | apply KeepBut.set_ | apply keep_drewN | apply keep_drew | apply keep_alloc) | exact HK.out)⟩
                    · rw [if_neg c23] at H
                      have c23b0 : decide (a1 < x5_1) = false := decide_eq_false c23
                      clear c23
                      obtain ⟨ji27, hji27⟩ : ∃ j_ : Int, (wrap64 (1 + (wrap64 ((wrap64 (IntKind.u64.wrap (bt s0_0 0))) - 247)))) = j_ := ⟨_, rfl⟩
                      replace H : (if 0 ≤ (ji27) then (if (ji27) ≤ (s0_0.size : Int) then (some (x5_1, s0_0.extract ((ji27) : Int).toNat s0_0.size, s0_1)) else (none)) else (none)) = some (r1, r2, r3) := by first | (rw [hji27] at H; exact H) | (simp only [hji27] at H ⊢; exact H)
                      (try rw [hji27] at c11b0)
                      (try rw [hji27] at c22b0)
                      (try rw [hji27] at c22b1)
                      (try rw [hji27] at A21)
                      have hji27w : (IntKind.i64.wrap (1 + (wrap64 ((wrap64 (IntKind.u64.wrap (bt s0_0 0))) - 247)))) = ji27 := (i64_w _).trans hji27
                      by_cases c28 : 0 ≤ (ji27)
                      · rw [if_pos c28] at H
                        have c28b0 := eq_true c28
                        have c28b1 : decide (0 ≤ (ji27)) = true := decide_eq_true c28
                        clear c28
                        by_cases c29 : (ji27) ≤ (s0_0.size : Int)
                        · rw [if_pos c29] at H
                          have c29b0 := eq_true c29
                          have c29b1 : decide ((ji27) ≤ (s0_0.size : Int)) = true := decide_eq_true c29
                          clear c29
                          simp only [Option.some.injEq, Prod.mk.injEq] at H
                          obtain ⟨rfl, rfl, rfl⟩ := H
                          go_wp2_with (first | ((with_reducible refine gate_callee (f := 67) rfl ?_); refine goesL_ (some 58) rfl rfl Try.func67 (by kernel_rfl) rfl #[.int .u64 x5_1] rfl (by (try simp only [List.map_toArray, List.map_cons, List.map_nil]); first | done | rfl | (simp only [List.length_drop, List.length_take]; rfl)) ?_; (with_reducible refine (dovecoteref02_Number.calls x5_1 t120 _ A21.out).mono ?_); rintro e w30 ⟨rfl, hb⟩; refine ⟨_, rfl, ?_⟩; have n0_ := Aside0.mk (IsS123.below (by repeat (first | (with_reducible first | exact HI0.out | apply IsS123.alloc | apply IsS123.drewN | apply IsS123.drew | apply IsS123.set_0 | apply IsS123.set_1) | exact HI0.out)) hb); have n1_ := Aside0.mk (KeepBut.trans (by repeat (first | (with_reducible first | exact HK.out | apply KeepBut.set_ | apply keep_drewN | apply keep_drew | apply keep_alloc) | exact HK.out)) (KeepBut.of_below hb g none) (.inl rfl)); have n2_ := Aside0.mk (below_step (by repeat (first | (with_reducible first | exact HB.out | apply below_alloc | apply pw_below_drewN | apply below_drew1 | refine below_set ?_ (IsS123.ge HI0.out)) | exact HB.out)) hb); clear HI0; clear HK; clear HB; have HI0 := n0_; have HK := n1_; have HB := n2_; clear n0_ n1_ n2_; (try clear hb); (try clear hb2); (try clear hk); (try clear hi); obtain ⟨HGz31, hgz31⟩ := HI0.out; have hcz31_0 := cellS123_0 HGz31; have hcz31_1 := cellS123_1 HGz31; have hfz31_0 := blk_frozen HGz31 0; have hfz31_1 := blk_frozen HGz31 1; clear HGz31 hgz31))
                          go_ret
                          exact ⟨by first | rfl | (simp [errW_none, errW_some] <;> rfl) | (simp only [← hji27]; first | rfl | (simp [errW_none, errW_some] <;> rfl)) | (simp [*, errW_none, errW_some] <;> rfl), by repeat (first | (with_reducible first | exact HI0.out | apply IsS123.alloc | apply IsS123.drewN | apply IsS123.drew | apply IsS123.set_0 | apply IsS123.set_1) | exact HI0.out), by repeat (first | (with_reducible first | exact HB.out | apply below_alloc | apply pw_below_drewN | apply below_drew1 | refine below_set ?_ (IsS123.ge HI0.out)) | exact HB.out), by repeat (first | (with_reducible first | exact HK.out | apply KeepBut.set_ | apply keep_drewN | apply keep_drew | apply keep_alloc) | exact HK.out)⟩
                        · rw [if_neg c29] at H
                          exact absurd H (by simp)
                      · rw [if_neg c28] at H
                        exact absurd H (by simp)
                  · rw [if_neg c22] at H
                    have c22b0 : ((t120.size : Int) == (wrap64 (1 + (wrap64 ((wrap64 (IntKind.u64.wrap (bt s0_0 0))) - 247))))) = false := beq_eq_false_iff_ne.mpr c22
                    have c22b1 : ((t120.size : Int) != (wrap64 (1 + (wrap64 ((wrap64 (IntKind.u64.wrap (bt s0_0 0))) - 247))))) = true := bne_iff_ne.mpr c22
                    replace H := Option.bind_eq_some_iff.mp H
                    obtain ⟨⟨t123, t124⟩, A320, H⟩ := H
                    replace H : (some (0, t123, t124)) = some (r1, r2, r3) := H
                    have A32 := Aside0.mk A320
                    clear A320
                    simp only [Option.some.injEq, Prod.mk.injEq] at H
                    obtain ⟨rfl, rfl, rfl⟩ := H
                    go_wp2_with (first | ((with_reducible refine gate_callee (f := 67) rfl ?_); refine goesL_ (some 58) rfl rfl Try.func67 (by kernel_rfl) rfl #[.int .u64 x5_1] rfl (by (try simp only [List.map_toArray, List.map_cons, List.map_nil]); first | done | rfl | (simp only [List.length_drop, List.length_take]; rfl)) ?_; (with_reducible refine (dovecoteref02_Number.calls x5_1 t120 _ A21.out).mono ?_); rintro e w33 ⟨rfl, hb⟩; refine ⟨_, rfl, ?_⟩; have n0_ := Aside0.mk (IsS123.below (by repeat (first | (with_reducible first | exact HI0.out | apply IsS123.alloc | apply IsS123.drewN | apply IsS123.drew | apply IsS123.set_0 | apply IsS123.set_1) | exact HI0.out)) hb); have n1_ := Aside0.mk (KeepBut.trans (by repeat (first | (with_reducible first | exact HK.out | apply KeepBut.set_ | apply keep_drewN | apply keep_drew | apply keep_alloc) | exact HK.out)) (KeepBut.of_below hb g none) (.inl rfl)); have n2_ := Aside0.mk (below_step (by repeat (first | (with_reducible first | exact HB.out | apply below_alloc | apply pw_below_drewN | apply below_drew1 | refine below_set ?_ (IsS123.ge HI0.out)) | exact HB.out)) hb); clear HI0; clear HK; clear HB; have HI0 := n0_; have HK := n1_; have HB := n2_; clear n0_ n1_ n2_; (try clear hb); (try clear hb2); (try clear hk); (try clear hi)) | ((with_reducible refine gate_callee (f := 85) rfl ?_); refine goesL_ (some 64) rfl rfl Try.func85 (by kernel_rfl) rfl #[.pointer (some ⟨g, 0, none⟩), .int .i64 2] rfl (by (try simp only [List.map_toArray, List.map_cons, List.map_nil]); first | done | rfl | (simp only [List.length_drop, List.length_take]; rfl)) ?_; (with_reducible refine (dovecoteref02_Reader_fail.calls g s0_0 s0_1 2 t123 t124 w0 _ ?side1 ?side2 A32.out).mono ?_); (case side1 => repeat (first | (with_reducible first | exact HI0.out | apply IsS123.alloc | apply IsS123.drewN | apply IsS123.drew | apply IsS123.set_0 | apply IsS123.set_1) | exact HI0.out)); (case side2 => repeat (first | (with_reducible first | exact HB.out | apply below_alloc | apply pw_below_drewN | apply below_drew1 | refine below_set ?_ (IsS123.ge HI0.out)) | exact HB.out)); rintro e w34 ⟨rfl, hi, hb, hk⟩; refine ⟨_, rfl, ?_⟩; have n0_ := Aside0.mk (KeepBut.trans (by repeat (first | (with_reducible first | exact HK.out | apply KeepBut.set_ | apply keep_drewN | apply keep_drew | apply keep_alloc) | exact HK.out)) hk (.inl rfl)); have n1_ := Aside0.mk (hb); have n2_ := Aside0.mk (hi); clear HK; clear HB; clear HI0; have HK := n0_; have HB := n1_; have HI0 := n2_; clear n0_ n1_ n2_; (try clear hb); (try clear hb2); (try clear hk); (try clear hi)))
                    go_ret
                    exact ⟨by first | rfl | (simp [errW_none, errW_some] <;> rfl) | (simp [*, errW_none, errW_some] <;> rfl), by repeat (first | (with_reducible first | exact HI0.out | apply IsS123.alloc | apply IsS123.drewN | apply IsS123.drew | apply IsS123.set_0 | apply IsS123.set_1) | exact HI0.out), by repeat (first | (with_reducible first | exact HB.out | apply below_alloc | apply pw_below_drewN | apply below_drew1 | refine below_set ?_ (IsS123.ge HI0.out)) | exact HB.out), by repeat (first | (with_reducible first | exact HK.out | apply KeepBut.set_ | apply keep_drewN | apply keep_drew | apply keep_alloc) | exact HK.out)⟩
        · rw [if_neg c10] at H
          have c10b0 : decide (247 < (IntKind.u64.wrap (bt s0_0 0))) = false := decide_eq_false c10
          clear c10
          by_cases c35 : (IntKind.u64.wrap (bt s0_0 0)) > a1
          · rw [if_pos c35] at H
            have c35b0 : decide (a1 < (IntKind.u64.wrap (bt s0_0 0))) = true := decide_eq_true c35
            clear c35
            replace H := Option.bind_eq_some_iff.mp H
            obtain ⟨⟨t125, t126⟩, A360, H⟩ := H
            replace H : (some (0, t125, t126)) = some (r1, r2, r3) := H
            have A36 := Aside0.mk A360
            clear A360
            simp only [Option.some.injEq, Prod.mk.injEq] at H
            obtain ⟨rfl, rfl, rfl⟩ := H
            obtain ⟨HGz37, hgz37⟩ := HI0.out
            have hcz37_0 := cellS123_0 HGz37
            have hcz37_1 := cellS123_1 HGz37
            have hfz37_0 := blk_frozen HGz37 0
            have hfz37_1 := blk_frozen HGz37 1
            clear HGz37 hgz37
            have p9 : 0 ≤ (0 : Int) := (by omega)
            have q9 : 0 < s0_0.size := (by have : (0 : Int) < (s0_0.size : Int) := of_decide_eq_true (by first | (with_reducible assumption) | assumption); omega)
            have hx9 : ∀ h : 0 < s0_0.size, ((s0_0[0]'h).toNat : Int) = bt s0_0 0 := bt_at s0_0 0
            clear p9
            have qi9 : (0 < (s0_0.size : Int)) = True := eq_true (of_decide_eq_true (by first | (with_reducible assumption) | assumption))
            replace q9 := eq_true q9
            go_enter Try.func64, Try.ntmps64
            go_wp2_with (first | ((with_reducible refine gate_callee (f := 85) rfl ?_); refine goesL_ (some 71) rfl rfl Try.func85 (by kernel_rfl) rfl #[.pointer (some ⟨g, 0, none⟩), .int .i64 3] rfl (by (try simp only [List.map_toArray, List.map_cons, List.map_nil]); first | done | rfl | (simp only [List.length_drop, List.length_take]; rfl)) ?_; (with_reducible refine (dovecoteref02_Reader_fail.calls g s0_0 s0_1 3 t125 t126 w0 _ ?side1 ?side2 A36.out).mono ?_); (case side1 => repeat (first | (with_reducible first | exact HI0.out | apply IsS123.alloc | apply IsS123.drewN | apply IsS123.drew | apply IsS123.set_0 | apply IsS123.set_1) | exact HI0.out)); (case side2 => repeat (first | (with_reducible first | exact HB.out | apply below_alloc | apply pw_below_drewN | apply below_drew1 | refine below_set ?_ (IsS123.ge HI0.out)) | exact HB.out)); rintro e w38 ⟨rfl, hi, hb, hk⟩; refine ⟨_, rfl, ?_⟩; have n0_ := Aside0.mk (KeepBut.trans (by repeat (first | (with_reducible first | exact HK.out | apply KeepBut.set_ | apply keep_drewN | apply keep_drew | apply keep_alloc) | exact HK.out)) hk (.inl rfl)); have n1_ := Aside0.mk (hb); have n2_ := Aside0.mk (hi); clear HK; clear HB; clear HI0; have HK := n0_; have HB := n1_; have HI0 := n2_; clear n0_ n1_ n2_; (try clear hb); (try clear hb2); (try clear hk); (try clear hi)))
            go_ret
            exact ⟨by first | rfl | (simp [errW_none, errW_some] <;> rfl) | (simp [*, errW_none, errW_some] <;> rfl), by repeat (first | (with_reducible first | exact HI0.out | apply IsS123.alloc | apply IsS123.drewN | apply IsS123.drew | apply IsS123.set_0 | apply IsS123.set_1) | exact HI0.out), by repeat (first | (with_reducible first | exact HB.out | apply below_alloc | apply pw_below_drewN | apply below_drew1 | refine below_set ?_ (IsS123.ge HI0.out)) | exact HB.out), by repeat (first | (with_reducible first | exact HK.out | apply KeepBut.set_ | apply keep_drewN | apply keep_drew | apply keep_alloc) | exact HK.out)⟩
          · rw [if_neg c35] at H
            have c35b0 : decide (a1 < (IntKind.u64.wrap (bt s0_0 0))) = false := decide_eq_false c35
            clear c35
            by_cases c39 : 1 ≤ (s0_0.size : Int)
            · rw [if_pos c39] at H
              have c39b0 := eq_true c39
              have c39b1 : decide (1 ≤ (s0_0.size : Int)) = true := decide_eq_true c39
              clear c39
              simp only [Option.some.injEq, Prod.mk.injEq] at H
              obtain ⟨rfl, rfl, rfl⟩ := H
              obtain ⟨HGz40, hgz40⟩ := HI0.out
              have hcz40_0 := cellS123_0 HGz40
              have hcz40_1 := cellS123_1 HGz40
              have hfz40_0 := blk_frozen HGz40 0
              have hfz40_1 := blk_frozen HGz40 1
              clear HGz40 hgz40
              have p9 : 0 ≤ (0 : Int) := (by omega)
              have q9 : 0 < s0_0.size := (by have : (0 : Int) < (s0_0.size : Int) := of_decide_eq_true (by first | (with_reducible assumption) | assumption); omega)
              have hx9 : ∀ h : 0 < s0_0.size, ((s0_0[0]'h).toNat : Int) = bt s0_0 0 := bt_at s0_0 0
              clear p9
              have qi9 : (0 < (s0_0.size : Int)) = True := eq_true (of_decide_eq_true (by first | (with_reducible assumption) | assumption))
              replace q9 := eq_true q9
              go_enter Try.func64, Try.ntmps64
              go_wp2
              go_ret
              exact ⟨by first | rfl | (simp [errW_none, errW_some] <;> rfl) | (simp [*, errW_none, errW_some] <;> rfl), by repeat (first | (with_reducible first | exact HI0.out | apply IsS123.alloc | apply IsS123.drewN | apply IsS123.drew | apply IsS123.set_0 | apply IsS123.set_1) | exact HI0.out), by repeat (first | (with_reducible first | exact HB.out | apply below_alloc | apply pw_below_drewN | apply below_drew1 | refine below_set ?_ (IsS123.ge HI0.out)) | exact HB.out), by repeat (first | (with_reducible first | exact HK.out | apply KeepBut.set_ | apply keep_drewN | apply keep_drew | apply keep_alloc) | exact HK.out)⟩
            · rw [if_neg c39] at H
              exact absurd H (by simp)
      · rw [if_neg c8] at H
        exact absurd H (by simp)
  · rw [if_neg c3] at H
    have c3b0 : (s0_1 == 0) = false := beq_eq_false_iff_ne.mpr c3
    have c3b1 : (s0_1 != 0) = true := bne_iff_ne.mpr c3
    simp only [Option.some.injEq, Prod.mk.injEq] at H
    obtain ⟨rfl, rfl, rfl⟩ := H
    obtain ⟨HGz41, hgz41⟩ := HI0.out
    have hcz41_0 := cellS123_0 HGz41
    have hcz41_1 := cellS123_1 HGz41
    have hfz41_0 := blk_frozen HGz41 0
    have hfz41_1 := blk_frozen HGz41 1
    clear HGz41 hgz41
    go_enter Try.func64, Try.ntmps64
    go_wp2
    go_ret
    exact ⟨by first | rfl | (simp [errW_none, errW_some] <;> rfl) | (simp [*, errW_none, errW_some] <;> rfl), by repeat (first | (with_reducible first | exact HI0.out | apply IsS123.alloc | apply IsS123.drewN | apply IsS123.drew | apply IsS123.set_0 | apply IsS123.set_1) | exact HI0.out), by repeat (first | (with_reducible first | exact HB.out | apply below_alloc | apply pw_below_drewN | apply below_drew1 | refine below_set ?_ (IsS123.ge HI0.out)) | exact HB.out), by repeat (first | (with_reducible first | exact HK.out | apply KeepBut.set_ | apply keep_drewN | apply keep_drew | apply keep_alloc) | exact HK.out)⟩

/-! ### dovecoteref02_Reader_End: function 65 -/
def dovecoteref02_Reader_End.f (s0_0 : ByteArray) (s0_1 : Int) : Option (Int × ByteArray × Int) := if s0_1 = 0 then (if s0_0.toList = ([] : List UInt8) then (some (0, s0_0, s0_1)) else (some (2, s0_0, s0_1))) else (some (s0_1, s0_0, s0_1))
set_option maxHeartbeats 8000000 in
set_option maxRecDepth 100000 in
theorem dovecoteref02_Reader_End.calls (g : Nat) (s0_0 : ByteArray) (s0_1 : Int) (r1 : Int) (r2 : ByteArray) (r3 : Int) (w0 w : World) (hI : IsS123 w0 w g s0_0 s0_1) (hB : Below w0.heap.size w0 w) (h : dovecoteref02_Reader_End.f s0_0 s0_1 = some (r1, r2, r3)) :
    Calls Try.prog 65 #[.pointer (some ⟨g, 0, none⟩)] w fun e w' => e = .returned (.int .i64 r1) ∧ IsS123 w0 w' g r2 r3 ∧ Below w0.heap.size w0 w' ∧ KeepBut w w' g none := by
  have HI0 := Aside0.mk hI
  have HK := Aside0.mk (KeepBut.refl w g none)
  have HL := Aside0.mk hB.size
  clear hI
  have HW0 := Aside0.mk hB.size
  have HB := Aside0.mk hB
  clear hB
  have H : (if s0_1 = 0 then (if s0_0.toList = ([] : List UInt8) then (some (0, s0_0, s0_1)) else (some (2, s0_0, s0_1))) else (some (s0_1, s0_0, s0_1))) = some (r1, r2, r3) := h
  clear h
  by_cases c2 : s0_1 = 0
  · rw [if_pos c2] at H
    have c2b0 : (s0_1 == 0) = true := beq_iff_eq.mpr c2
    have c2b1 : (s0_1 != 0) = false := bne_eq_false_iff_eq.mpr c2
    clear c2
    by_cases c3 : s0_0.toList = ([] : List UInt8)
    · rw [if_pos c3] at H
      have c3b0 : (s0_0.toList == ([] : List UInt8)) = true := beq_iff_eq.mpr c3
      have c3b1 : (s0_0.toList != ([] : List UInt8)) = false := bne_eq_false_iff_eq.mpr c3
      clear c3
      simp only [Option.some.injEq, Prod.mk.injEq] at H
      obtain ⟨rfl, rfl, rfl⟩ := H
      obtain ⟨HGz4, hgz4⟩ := HI0.out
      have hcz4_0 := cellS123_0 HGz4
      have hcz4_1 := cellS123_1 HGz4
      have hfz4_0 := blk_frozen HGz4 0
      have hfz4_1 := blk_frozen HGz4 1
      clear HGz4 hgz4
      go_enter Try.func65, Try.ntmps65
      go_wp2
      go_ret
      exact ⟨by first | rfl | (simp [errW_none, errW_some] <;> rfl) | (simp [*, errW_none, errW_some] <;> rfl), by repeat (first | (with_reducible first | exact HI0.out | apply IsS123.alloc | apply IsS123.drewN | apply IsS123.drew | apply IsS123.set_0 | apply IsS123.set_1) | exact HI0.out), by repeat (first | (with_reducible first | exact HB.out | apply below_alloc | apply pw_below_drewN | apply below_drew1 | refine below_set ?_ (IsS123.ge HI0.out)) | exact HB.out), by repeat (first | (with_reducible first | exact HK.out | apply KeepBut.set_ | apply keep_drewN | apply keep_drew | apply keep_alloc) | exact HK.out)⟩
    · rw [if_neg c3] at H
      have c3b0 : (s0_0.toList == ([] : List UInt8)) = false := beq_eq_false_iff_ne.mpr c3
      have c3b1 : (s0_0.toList != ([] : List UInt8)) = true := bne_iff_ne.mpr c3
      simp only [Option.some.injEq, Prod.mk.injEq] at H
      obtain ⟨rfl, rfl, rfl⟩ := H
      obtain ⟨HGz5, hgz5⟩ := HI0.out
      have hcz5_0 := cellS123_0 HGz5
      have hcz5_1 := cellS123_1 HGz5
      have hfz5_0 := blk_frozen HGz5 0
      have hfz5_1 := blk_frozen HGz5 1
      clear HGz5 hgz5
      go_enter Try.func65, Try.ntmps65
      go_wp2
      go_ret
      exact ⟨by first | rfl | (simp [errW_none, errW_some] <;> rfl) | (simp [*, errW_none, errW_some] <;> rfl), by repeat (first | (with_reducible first | exact HI0.out | apply IsS123.alloc | apply IsS123.drewN | apply IsS123.drew | apply IsS123.set_0 | apply IsS123.set_1) | exact HI0.out), by repeat (first | (with_reducible first | exact HB.out | apply below_alloc | apply pw_below_drewN | apply below_drew1 | refine below_set ?_ (IsS123.ge HI0.out)) | exact HB.out), by repeat (first | (with_reducible first | exact HK.out | apply KeepBut.set_ | apply keep_drewN | apply keep_drew | apply keep_alloc) | exact HK.out)⟩
  · rw [if_neg c2] at H
    have c2b0 : (s0_1 == 0) = false := beq_eq_false_iff_ne.mpr c2
    have c2b1 : (s0_1 != 0) = true := bne_iff_ne.mpr c2
    simp only [Option.some.injEq, Prod.mk.injEq] at H
    obtain ⟨rfl, rfl, rfl⟩ := H
    obtain ⟨HGz6, hgz6⟩ := HI0.out
    have hcz6_0 := cellS123_0 HGz6
    have hcz6_1 := cellS123_1 HGz6
    have hfz6_0 := blk_frozen HGz6 0
    have hfz6_1 := blk_frozen HGz6 1
    clear HGz6 hgz6
    go_enter Try.func65, Try.ntmps65
    go_wp2
    go_ret
    exact ⟨by first | rfl | (simp [errW_none, errW_some] <;> rfl) | (simp [*, errW_none, errW_some] <;> rfl), by repeat (first | (with_reducible first | exact HI0.out | apply IsS123.alloc | apply IsS123.drewN | apply IsS123.drew | apply IsS123.set_0 | apply IsS123.set_1) | exact HI0.out), by repeat (first | (with_reducible first | exact HB.out | apply below_alloc | apply pw_below_drewN | apply below_drew1 | refine below_set ?_ (IsS123.ge HI0.out)) | exact HB.out), by repeat (first | (with_reducible first | exact HK.out | apply KeepBut.set_ | apply keep_drewN | apply keep_drew | apply keep_alloc) | exact HK.out)⟩

/-! ### dovecoteref03_Same: function 15 -/
def dovecoteref03_Same.l0 : Nat → List ByteArray → List ByteArray → Int → Option (Bool)
  | 0, _, _, _ => none
  | k + 1, x0, x1, x5 => if x5 < (x0.length : Int) then (if 0 ≤ x5 then (if x5 < (x1.length : Int) then (if (rdOf ByteArray.empty x0 x5).toList = (rdOf ByteArray.empty x1 x5).toList then (dovecoteref03_Same.l0 k x0 x1 (wrap64 (x5 + 1))) else (some false)) else (none)) else (none)) else (some true)
def dovecoteref03_Same.f (k : Nat) (l0 : List ByteArray) (l1 : List ByteArray) : Option (Bool) := if (l0.length : Int) = (l1.length : Int) then (dovecoteref03_Same.l0 k l0 l1 0) else (some false)
theorem dovecoteref03_Same.mono_l : ∀ k, (∀ y0 y1 y2, LeO (dovecoteref03_Same.l0 k y0 y1 y2) (dovecoteref03_Same.l0 (k + 1) y0 y1 y2))
  | 0 => fun _ _ _ r h => by simp [dovecoteref03_Same.l0] at h
  | k + 1 => by
    have ih0 := dovecoteref03_Same.mono_l k
    · intro y0 y1 y2
      unfold dovecoteref03_Same.l0
      repeat' first
      | (with_reducible exact ih0 _ _ _)
      | (with_reducible exact LeO.refl _)
      | (with_reducible exact LeO.none _)
      | (with_reducible refine LeO.ite ?_ ?_)
      | (with_reducible refine LeO.bind ?_ (fun _ => ?_))
      | exact ih0 _ _ _
      | exact LeO.none _
      | refine LeO.ite ?_ ?_
      | refine LeO.bind ?_ (fun _ => ?_)
theorem dovecoteref03_Same.mono : ∀ a0 a1 k, LeO (dovecoteref03_Same.f k a0 a1) (dovecoteref03_Same.f (k + 1) a0 a1) := by
  intro a0 a1 k
  have ih0 := dovecoteref03_Same.mono_l k
  unfold dovecoteref03_Same.f
  repeat' first
      | (with_reducible exact ih0 _ _ _)
      | (with_reducible exact LeO.refl _)
      | (with_reducible exact LeO.none _)
      | (with_reducible refine LeO.ite ?_ ?_)
      | (with_reducible refine LeO.bind ?_ (fun _ => ?_))
      | exact ih0 _ _ _
      | exact LeO.none _
      | refine LeO.ite ?_ ?_
      | refine LeO.bind ?_ (fun _ => ?_)
set_option maxHeartbeats 8000000 in
set_option maxRecDepth 100000 in
theorem dovecoteref03_Same.calls (k : Nat) (A0 : Option Addr) (c0 : Nat) (l0 : List ByteArray) (A1 : Option Addr) (c1 : Nat) (l1 : List ByteArray) (r : Bool) (w : World) (hr0 : Kd.C Kd.string w A0 l0.length l0) (hc0 : l0.length ≤ c0) (hr1 : Kd.C Kd.string w A1 l1.length l1) (hc1 : l1.length ≤ c1) (h : dovecoteref03_Same.f k l0 l1 = some r) :
    Calls Try.prog 15 #[.slice A0 l0.length c0, .slice A1 l1.length c1] w fun e w' => e = .returned (.bool r) ∧ Drawn0 w w' := by
  have HR0 := Aside0.mk hr0
  have HC0 := Aside0.mk hc0
  clear hr0 hc0
  have HR1 := Aside0.mk hr1
  have HC1 := Aside0.mk hc1
  clear hr1 hc1
  have H : (if (l0.length : Int) = (l1.length : Int) then (dovecoteref03_Same.l0 k l0 l1 0) else (some false)) = some r := h
  clear h
  by_cases c3 : (l0.length : Int) = (l1.length : Int)
  · rw [if_pos c3] at H
    have c3b0 : ((l0.length : Int) == (l1.length : Int)) = true := beq_iff_eq.mpr c3
    have c3b1 : ((l0.length : Int) != (l1.length : Int)) = false := bne_eq_false_iff_eq.mpr c3
    have c3b2 : (l0.length == l1.length) = true := by first | simpa using c3 | (simp at c3 ⊢; omega)
    clear c3
    have H' := Aside0.mk H
    clear H
    go_enter Try.func15, Try.ntmps15
    go_wp2
    repeat (go_quiet (fail); try go_wp2)
    go_loopg [5] k (fun kq v5 w' => ∃ (x5_1 : Int), v5 = .int .i64 x5_1 ∧ Aside0 (dovecoteref03_Same.l0 kq l0 l1 x5_1 = some r) ∧ Aside0 (kq ≤ k) ∧ Drawn0 w w')
    case atStart => exact ⟨(0), (by first | rfl | (simp; done) | (simp [*]; done)), H', ⟨Nat.le_refl _⟩, by repeat (first | exact Drawn0.refl _ | apply Drawn0.step)⟩
    case round =>
      clear H'
      try clear c1
      try clear p2
      try clear c3
      try clear c3b0
      try clear c3b1
      try clear c3b2
      obtain ⟨x5_1, rfl, HA, HK1, ⟨m1, rfl⟩⟩ := hrel
      cases gk with
      | zero => exact absurd HA.out (by simp [dovecoteref03_Same.l0])
      | succ k1 =>
        have H := HA.out
        clear HA
        simp only [dovecoteref03_Same.l0] at H
        by_cases c4 : x5_1 < (l0.length : Int)
        · rw [if_pos c4] at H
          have c4b0 : decide (x5_1 < (l0.length : Int)) = true := decide_eq_true c4
          clear c4
          by_cases c5 : 0 ≤ x5_1
          · rw [if_pos c5] at H
            have c5b0 : decide (0 ≤ x5_1) = true := decide_eq_true c5
            clear c5
            by_cases c6 : x5_1 < (l1.length : Int)
            · rw [if_pos c6] at H
              have c6b0 : decide (x5_1 < (l1.length : Int)) = true := decide_eq_true c6
              clear c6
              by_cases c7 : (rdOf ByteArray.empty l0 x5_1).toList = (rdOf ByteArray.empty l1 x5_1).toList
              · rw [if_pos c7] at H
                have c7b0 : ((rdOf ByteArray.empty l0 x5_1).toList == (rdOf ByteArray.empty l1 x5_1).toList) = true := beq_iff_eq.mpr c7
                have c7b1 : ((rdOf ByteArray.empty l0 x5_1).toList != (rdOf ByteArray.empty l1 x5_1).toList) = false := bne_eq_false_iff_eq.mpr c7
                clear c7
                have H' := Aside0.mk H
                clear H
                have p127 : 0 ≤ (x5_1 : Int) := of_decide_eq_true (by first | (with_reducible assumption) | assumption)
                have q127 : x5_1 < (l0.length : Int) := of_decide_eq_true (by first | (with_reducible assumption) | assumption)
                obtain ⟨ad127, e127, hx127_0⟩ := Kd.at_string HR0.out x5_1 p127 q127
                cases e127
                replace p127 := eq_true p127
                replace q127 := eq_true q127
                have p128 : 0 ≤ (x5_1 : Int) := of_decide_eq_true (by first | (with_reducible assumption) | assumption)
                have q128 : x5_1 < (l1.length : Int) := of_decide_eq_true (by first | (with_reducible assumption) | assumption)
                obtain ⟨ad128, e128, hx128_0⟩ := Kd.at_string HR1.out x5_1 p128 q128
                cases e128
                replace p128 := eq_true p128
                replace q128 := eq_true q128
                go_wp2
                repeat (go_quiet (fail); try go_wp2)
                go_roundg k1
                case measure => have := HK1.out; omega
                case rel => exact ⟨(wrap64 (x5_1 + 1)), (by first | rfl | (simp; done) | (simp [*]; done)), H', ⟨by have := HK1.out; omega⟩, by repeat (first | exact Drawn0.refl _ | apply Drawn0.step)⟩
              · rw [if_neg c7] at H
                have c7b0 : ((rdOf ByteArray.empty l0 x5_1).toList == (rdOf ByteArray.empty l1 x5_1).toList) = false := beq_eq_false_iff_ne.mpr c7
                have c7b1 : ((rdOf ByteArray.empty l0 x5_1).toList != (rdOf ByteArray.empty l1 x5_1).toList) = true := bne_iff_ne.mpr c7
                obtain rfl := Option.some.inj H
                have p127 : 0 ≤ (x5_1 : Int) := of_decide_eq_true (by first | (with_reducible assumption) | assumption)
                have q127 : x5_1 < (l0.length : Int) := of_decide_eq_true (by first | (with_reducible assumption) | assumption)
                obtain ⟨ad127, e127, hx127_0⟩ := Kd.at_string HR0.out x5_1 p127 q127
                cases e127
                replace p127 := eq_true p127
                replace q127 := eq_true q127
                have p128 : 0 ≤ (x5_1 : Int) := of_decide_eq_true (by first | (with_reducible assumption) | assumption)
                have q128 : x5_1 < (l1.length : Int) := of_decide_eq_true (by first | (with_reducible assumption) | assumption)
                obtain ⟨ad128, e128, hx128_0⟩ := Kd.at_string HR1.out x5_1 p128 q128
                cases e128
                replace p128 := eq_true p128
                replace q128 := eq_true q128
                go_wp2
                repeat (go_quiet (fail); try go_wp2)
                go_ret
                exact ⟨by first | rfl | (simp; done) | (simp [*]; done), by repeat (first | exact Drawn0.refl _ | apply Drawn0.step)⟩
            · rw [if_neg c6] at H
              exact absurd H (by simp)
          · rw [if_neg c5] at H
            exact absurd H (by simp)
        · rw [if_neg c4] at H
          have c4b0 : decide (x5_1 < (l0.length : Int)) = false := decide_eq_false c4
          clear c4
          obtain rfl := Option.some.inj H
          go_wp2
          repeat (go_quiet (fail); try go_wp2)
          go_ret
          exact ⟨by first | rfl | (simp; done) | (simp [*]; done), by repeat (first | exact Drawn0.refl _ | apply Drawn0.step)⟩
  · rw [if_neg c3] at H
    have c3b0 : ((l0.length : Int) == (l1.length : Int)) = false := beq_eq_false_iff_ne.mpr c3
    have c3b1 : ((l0.length : Int) != (l1.length : Int)) = true := bne_iff_ne.mpr c3
    have c3b2 : (l0.length == l1.length) = false := by first | simpa using c3 | (simp at c3 ⊢; omega)
    obtain rfl := Option.some.inj H
    go_enter Try.func15, Try.ntmps15
    go_wp2
    repeat (go_quiet (fail); try go_wp2)
    go_ret
    exact ⟨by first | rfl | (simp; done) | (simp [*]; done), by repeat (first | exact Drawn0.refl _ | apply Drawn0.step)⟩

end Go.Proofs.Ytccdmedhkbabpaa.PFr
/- A frame as a plain text, and how it is read: frame.Wrap in plain words. Conditions: those that each theorem names. -/
namespace Go.Proofs.Ytccdmedhkbabpaa
open Go.RowKit Go.Proofs.YtccdmedhkbabpaaW.PrintWords PRd PFr

theorem toList_nil (s : ByteArray) : (s.toList = ([] : List UInt8)) ↔ s.size = 0 := by
  have : s.toList.length = s.size := by rw [ByteArray.toList_eq, data_length]
  rw [← this, List.length_eq_zero_iff]
theorem toList_inj {s t : ByteArray} : s.toList = t.toList ↔ s = t := by
  constructor
  · intro h
    rw [ByteArray.toList_eq, ByteArray.toList_eq] at h
    have := Array.toList_inj.1 h
    cases s; cases t; simp_all
  · rintro rfl; rfl
def four (x : Nat) : ByteArray := strOfNums ([(x : Int) % 256, ((x : Int) / 256) % 256, ((x : Int) / 65536) % 256, ((x : Int) / 16777216) % 256] : List Int)
theorem four_size (x : Nat) : (four x).size = 4 := by unfold four; rw [size_nums]; rfl
/-- A payload's frame. -/
def frm (p : ByteArray) : ByteArray := strOfNums [215] ++ encT p ++ four (sumN (encT p))
def wrp (p : ByteArray) : ByteArray × Int := if 16384 < p.size then (⟨#[]⟩, 3) else (frm p, 0)
theorem encT_size (p : ByteArray) (h : p.size ≤ 140737488355000) : 1 + p.size ≤ (encT p).size ∧ (encT p).size ≤ 9 + p.size := by
  have := encB_size (n := (p.size : Int)) (by omega)
  unfold encT
  rw [ByteArray.size_append]; omega
theorem wrap_f (p : ByteArray) : frame_Wrap.f p = some (wrp p) := by
  unfold frame_Wrap.f wrp
  by_cases h : p.size > 16384
  · rw [if_pos (by omega), if_pos h]
  · have hs := encT_size p (by omega)
    rw [if_neg (by omega), if_neg (by omega)]
    have e1 : frame_body.f p = some (encT p) := if_pos (by omega)
    have e2 : frame_Sum.f (encT p) = some (sumN (encT p) : Int) := if_pos (by omega)
    rw [e1]
    simp only [Option.bind_some]
    have s1 : (strOfNums ([215] : List Int)).size = 1 := rfl
    have s2 : (four (sumN (encT p))).size = 4 := four_size _
    rw [if_pos (by omega), e2]
    simp only [Option.bind_some]
    have e3 : frame_four.f (sumN (encT p) : Int) = some (four (sumN (encT p))) := rfl
    rw [e3]
    simp only [Option.bind_some]
    rw [if_pos (by rw [ByteArray.size_append]; omega)]
    rfl
theorem wrap_calls (p : ByteArray) (w : World) : Calls Try.prog 32 #[.string p] w fun e w' => e = .returned (.tuple #[.string (wrp p).1, .int .i64 (wrp p).2]) ∧ Below w.heap.size w w' :=
  frame_Wrap.calls p _ _ w (wrap_f p)
/-- What Next reads behind the mark: the payload's size, what is left of the rest, the error. -/
def hd (s : ByteArray) : Int × ByteArray × Int := rdNum (s.extract 1 s.size) 0 16384
/-- Where the payload begins. -/
def atOf (s : ByteArray) : Nat := s.size - (hd s).2.1.size
/-- The first frame. -/
def nxt (s : ByteArray) : ByteArray × Int × Int :=
  if s.size = 0 then (⟨#[]⟩, 0, 4) else if bt s 0 ≠ 215 then (⟨#[]⟩, 0, 2) else if (hd s).2.2 ≠ 0 then (⟨#[]⟩, 0, (hd s).2.2)
  else if (hd s).2.1.size < (hd s).1.toNat + 4 then (⟨#[]⟩, 0, 4)
  else if four (sumN (s.extract 1 (atOf s + (hd s).1.toNat))) ≠ s.extract (atOf s + (hd s).1.toNat) (atOf s + (hd s).1.toNat + 4) then (⟨#[]⟩, 0, 5)
  else (s.extract (atOf s) (atOf s + (hd s).1.toNat), ((atOf s + (hd s).1.toNat + 4 : Nat) : Int), 0)
end Go.Proofs.Ytccdmedhkbabpaa
/- frame.Next answers as the plain word nxt says. Condition: how long the text is at most. -/
namespace Go.Proofs.Ytccdmedhkbabpaa
open Go.RowKit Go.Proofs.YtccdmedhkbabpaaW.PrintWords PRd PFr

/-- What a call of Next answers. -/
abbrev nxtV (s : ByteArray) : Value := .tuple #[.string (nxt s).1, .int .i64 (nxt s).2.1, .int .i64 (nxt s).2.2]
theorem four_calls (x : Nat) (w : World) : Calls Try.prog 58 #[.int .u32 (x : Int)] w fun e w' => e = .returned (.string (four x)) ∧ Below w.heap.size w w' :=
  frame_four.calls (x : Int) _ w rfl
set_option maxRecDepth 100000 in
set_option maxHeartbeats 8000000 in
theorem next_calls (s : ByteArray) (hs : s.size ≤ 281474976710656) (w : World) : Calls Try.prog 45 #[.string s] w fun e w' => e = .returned (nxtV s) ∧ Below w.heap.size w w' := by
  obtain ⟨V, hV⟩ : ∃ V, V = nxt s := ⟨_, rfl⟩
  have HV := Lib.hid hV
  unfold nxt at hV
  have HN := Lib.hid hV
  clear hV
  by_cases h0 : s.size = 0
  · rw [if_pos h0] at HN
    have c0 : (s.toList == ([] : List UInt8)) = true := by rw [(toList_nil s).2 h0]; rfl
    go_enter Try.func45, Try.ntmps45
    go_wp2_with fail
    go_ret3
    exact ⟨by rw [nxtV, ← HV.out, HN.out]; rfl, Below.refl _ _⟩
  · rw [if_neg h0] at HN
    have c0 : (s.toList == ([] : List UInt8)) = false := by
      rw [beq_eq_false_iff_ne]; exact fun h => h0 ((toList_nil s).1 h)
    have c1 : decide (0 < (s.size : Int)) = true := decide_eq_true (by omega)
    have c2 : decide (0 < s.size) = true := decide_eq_true (by omega)
    have hpos : 0 < s.size := by omega
    have hb0 : ((s[0]'hpos).toNat : Int) = bt s 0 := bt_at s 0 hpos
    by_cases hb : bt s 0 = 215
    · rw [if_neg (by simp [hb])] at HN
      have c3 : (bt s 0 == 215) = true := beq_iff_eq.mpr hb
      have c4 : (bt s 0 != 215) = false := bne_eq_false_iff_eq.mpr hb
      have c5 : (1 ≤ (s.size : Int)) = True := eq_true (by omega)
      have c6 : decide (1 ≤ (s.size : Int)) = true := decide_eq_true (by omega)
      have hf := Lib.hid (rdNum_facts (s.extract 1 s.size) 0 16384 (by decide))
      have hsz := Lib.hid (show (s.extract 1 s.size).size = s.size - 1 by rw [ByteArray.size_extract]; omega)
      go_enter Try.func45, Try.ntmps45
      go_wp2_with fail
      clear c0 c1 c2 c3 c4 c5 c6 hb0
      refine (rnew (w0 := w) (s.extract 1 s.size) (Below.refl _ _)).mono ?_
      rintro e w1 ⟨r, rfl, hR, hB, hb2, hr⟩
      have HR1 := Lib.hid hR
      have HB1 := Lib.hid hB
      clear hR hB hb2 hr
      go_wp2_with fail
      refine (rnumber w _ r _ 0 16384 (by decide) (by decide) HR1.out HB1.out).mono ?_
      rintro e w2 ⟨rfl, hR, hB, hk⟩
      have HA : Hid (atOf s = s.size - (hd s).2.1.size) := rfl
      rw [show rdNum (s.extract 1 s.size) 0 16384 = hd s from rfl] at hR hf
      rw [show rdNum (s.extract 1 s.size) 0 16384 = hd s from rfl]
      generalize hd s = qq at *
      obtain ⟨n, t, er⟩ := qq
      dsimp only at *
      have HR2 := Lib.hid hR
      have HB2 := Lib.hid hB
      clear hR hB hk HR1 HB1
      have hn0 := hf.out.1
      have hn1 := hf.out.2.1
      obtain ⟨k, rfl⟩ : ∃ k : Nat, n = (k : Int) := ⟨n.toNat, by omega⟩
      have hts : t.size ≤ s.size - 1 := by have := hf.out.2.2; have := hsz.out; omega
      clear hf hsz
      go_wp2_with fail
      refine (rerr HR2.out HB2.out).mono ?_
      rintro e w3 ⟨rfl, hR, hB, hk⟩
      have HR3 := Lib.hid hR
      have HB3 := Lib.hid hB
      clear hR hB hk HR2 HB2
      by_cases he : er = 0
      · subst he
        rw [if_neg (by simp)] at HN
        simp only [Int.toNat_natCast] at HN
        go_wp2_with fail
        refine (rleft HR3.out HB3.out).mono ?_
        rintro e w4 ⟨rfl, hR, hB, hk⟩
        have HR4 := Lib.hid hR
        have HB4 := Lib.hid hB
        clear hR hB hk HR3 HB3
        obtain ⟨a, hsa⟩ : ∃ a : Nat, s.size = a + t.size := ⟨s.size - t.size, by omega⟩
        have ha : atOf s = a := by rw [HA.out]; omega
        rw [ha] at HN
        have hsub : (s.size : Int) - (t.size : Int) = (a : Int) := by omega
        have ha1 : 1 ≤ a := by omega
        have HSA := Lib.hid hsa
        clear hsa HA ha
        go_wp2_with fail
        refine (rleft HR4.out HB4.out).mono ?_
        rintro e w5 ⟨rfl, hR, hB, hk⟩
        have HB5 := Lib.hid hB
        clear hR hB hk HR4 HB4
        clear hsub
        by_cases hl : t.size < k + 4
        · rw [if_pos hl] at HN
          have c7 : decide ((t.size : Int) < (k : Int) + 4) = true := decide_eq_true (by omega)
          go_wp2_with fail
          go_ret3
          exact ⟨by rw [nxtV, ← HV.out, HN.out]; rfl, HB5.out⟩
        · rw [if_neg hl] at HN
          have c7 : decide ((t.size : Int) < (k : Int) + 4) = false := decide_eq_false (by omega)
          have hak : a + k + 4 ≤ s.size := by have := HSA.out; omega
          obtain ⟨b, hbk⟩ : ∃ b, b = a + k := ⟨_, rfl⟩
          obtain ⟨c, hck⟩ : ∃ c, c = b + 4 := ⟨_, rfl⟩
          rw [← hbk] at HN
          rw [← hck] at HN
          have hw1 : IntKind.i64.wrap ((a : Int) + (k : Int)) = (b : Int) := by rw [IntKind.wrap_i64]; omega
          have hw2 : IntKind.i64.wrap ((b : Int) + 4) = (c : Int) := by rw [IntKind.wrap_i64]; omega
          have d1 : (1 : Int) ≤ (b : Int) := by omega
          have d2 : (b : Int) ≤ (s.size : Int) := by omega
          have d3 : (c : Int) ≤ (s.size : Int) := by omega
          have d4 : (a : Int) ≤ (b : Int) := by omega
          have d5 : (b : Int) ≤ (c : Int) := by omega
          have d6 : (0 : Int) ≤ (a : Int) := by omega
          have d7 : (0 : Int) ≤ (b : Int) := by omega
          have hx : (s.extract 1 b).size ≤ 281474976710656 := by rw [ByteArray.size_extract]; omega
          have HBK := Lib.hid hbk
          have HCK := Lib.hid hck
          clear hbk hck hak
          have hB5 : Below w.heap.size w w5.drew := below_drew1 HB5.out
          go_wp2_with fail
          go_region_held3 (fun w' => Below w.heap.size w w') (first | assumption | exact below_drew1 HB5.out | go_keep) (first | (go_at_call 59; refine (sum_calls (s.extract 1 b) hx _).mono ?_; rintro e w6 ⟨rfl, hB⟩; have hB6 := below_step ‹Below w.heap.size w _› hB; clear hB) | (go_at_call 58; refine (four_calls _ _).mono ?_; rintro e w6 ⟨rfl, hB⟩; have hB6 := below_step ‹Below w.heap.size w _› hB; clear hB))
          have HB6 := Lib.hid hB6
          generalize hu : four (sumN (s.extract 1 b)) = u at *
          clear hu hB6 hB5 HB5
          go_wp2
          · rename_i hc
            have hq : ¬ u = s.extract b c := by rintro rfl; simp at hc
            rw [if_pos hq] at HN
            clear hq
            go_ret3
            exact ⟨by rw [nxtV, ← HV.out, HN.out]; rfl, HB6.out⟩
          · rename_i hc
            have hq : u = s.extract b c := by apply toList_inj.1; simpa using hc
            rw [if_neg (by simpa using hq)] at HN
            clear hq hc
            go_wp2
            go_ret3
            exact ⟨by rw [nxtV, ← HV.out, HN.out]; rfl, HB6.out⟩
      · rw [if_pos he] at HN
        have c7 : (er == 0) = false := beq_eq_false_iff_ne.mpr he
        have c8 : (er != 0) = true := bne_iff_ne.mpr he
        go_wp2_with fail
        go_ret3
        exact ⟨by rw [nxtV, ← HV.out, HN.out]; rfl, HB3.out⟩
    · rw [if_pos hb] at HN
      have c3 : (bt s 0 == 215) = false := beq_eq_false_iff_ne.mpr hb
      have c4 : (bt s 0 != 215) = true := bne_iff_ne.mpr hb
      go_enter Try.func45, Try.ntmps45
      go_wp2_with fail
      go_ret3
      exact ⟨by rw [nxtV, ← HV.out, HN.out]; rfl, Below.refl _ _⟩
end Go.Proofs.Ytccdmedhkbabpaa
/- What is framed is read, and the other way round; what else is read. Conditions: those that each theorem names. -/
namespace Go.Proofs.Ytccdmedhkbabpaa
open Go.RowKit Go.Proofs.YtccdmedhkbabpaaW.PrintWords PRd PFr


theorem extract_mid (a b c : ByteArray) (n m : Nat) (hn : n = a.size) (hm : m = a.size + b.size) : (a ++ b ++ c).extract n m = b := by
  apply bytes_ext
  rw [bytesOf_extract, bytesOf_append, List.take_left' (by rw [bytesOf_length, ByteArray.size_append, hm]), bytesOf_append, List.drop_left' (by rw [bytesOf_length, hn])]
theorem head_split (s : ByteArray) (h : s.size ≠ 0) : s = strOfNums [bt s 0] ++ s.extract 1 s.size := by
  have hb0 : bt s 0 = (bytesOf s).getD 0 0 := bt_get s 0
  have hr := bt_range s 0
  have hlen := bytesOf_length s
  apply bytes_ext
  rw [bytesOf_append, bytesOf_extract, ← hlen, List.take_length, bytesOf_nums _ (by intro x hx; simp at hx; omega), hb0]
  cases hl : bytesOf s with
  | nil => rw [hl] at hlen; simp at hlen; omega
  | cons a l => simp
theorem mark_size : (strOfNums ([215] : List Int)).size = 1 := rfl
theorem frm_size (p : ByteArray) : (frm p).size = 1 + (encB p.size).size + p.size + 4 := by
  unfold frm encT
  rw [ByteArray.size_append, ByteArray.size_append, ByteArray.size_append, four_size, mark_size]; omega
theorem hd_frm (p t : ByteArray) (hp : p.size ≤ 16384) : hd (frm p ++ t) = ((p.size : Int), p ++ (four (sumN (encT p)) ++ t), 0) := by
  have e : frm p ++ t = strOfNums [215] ++ (encB p.size ++ (p ++ (four (sumN (encT p)) ++ t))) := by
    unfold frm encT
    simp only [ByteArray.append_assoc]
  unfold hd
  rw [e, extract_right _ _ _ _ mark_size.symm (by rw [ByteArray.size_append])]
  exact rdNum_enc _ _ _ (by omega) (by omega) (by omega)
theorem bt_frm (p t : ByteArray) : bt (frm p ++ t) 0 = 215 := by
  have := bt_get (frm p ++ t) 0
  refine this.trans ?_
  unfold frm
  simp only [ByteArray.append_assoc]
  rw [bytesOf_append]
  rfl
/-- What was framed is read. -/
theorem nxt_frm (p t : ByteArray) (hp : p.size ≤ 16384) : nxt (frm p ++ t) = (p, ((frm p).size : Int), 0) := by
  have hh := hd_frm p t hp
  have hs := frm_size p
  have hat : atOf (frm p ++ t) = 1 + (encB p.size).size := by
    unfold atOf
    rw [hh, ByteArray.size_append]
    simp only [ByteArray.size_append, four_size]
    omega
  have e1 : (frm p ++ t).extract (1 + (encB p.size).size) (1 + (encB p.size).size + p.size) = p := by
    have e : frm p ++ t = (strOfNums [215] ++ encB p.size) ++ p ++ (four (sumN (encT p)) ++ t) := by
      unfold frm encT
      simp only [ByteArray.append_assoc]
    rw [e]
    exact extract_mid _ _ _ _ _ (by rw [ByteArray.size_append, mark_size]) (by rw [ByteArray.size_append, mark_size])
  have e2 : (frm p ++ t).extract 1 (1 + (encB p.size).size + p.size) = encT p := by
    have e : frm p ++ t = strOfNums [215] ++ encT p ++ (four (sumN (encT p)) ++ t) := by
      unfold frm
      simp only [ByteArray.append_assoc]
    rw [e]
    exact extract_mid _ _ _ _ _ mark_size.symm (by rw [mark_size, encT, ByteArray.size_append]; omega)
  have e3 : (frm p ++ t).extract (1 + (encB p.size).size + p.size) (1 + (encB p.size).size + p.size + 4) = four (sumN (encT p)) := by
    have e : frm p ++ t = (strOfNums [215] ++ encT p) ++ four (sumN (encT p)) ++ t := by
      unfold frm
      simp only [ByteArray.append_assoc]
    rw [e]
    exact extract_mid _ _ _ _ _ (by rw [ByteArray.size_append, mark_size, encT, ByteArray.size_append]; omega) (by rw [ByteArray.size_append, mark_size, encT, ByteArray.size_append, four_size]; omega)
  unfold nxt
  rw [if_neg (by rw [ByteArray.size_append]; omega), if_neg (by simp [bt_frm]), hh, hat]
  simp only [Int.toNat_natCast]
  rw [if_neg (by simp), if_neg (by simp only [ByteArray.size_append, four_size]; omega), e2, e3, if_neg (by simp), e1, hs]
/-- What is read was framed. -/
theorem nxt_inv (s : ByteArray) (h : (nxt s).2.2 = 0) : ∃ t, s = frm (nxt s).1 ++ t ∧ (nxt s).1.size ≤ 16384 ∧ (nxt s).2.1 = ((frm (nxt s).1).size : Int) := by
  have hh := rdNum_inv (s.extract 1 s.size) 0 16384
  rw [show rdNum (s.extract 1 s.size) 0 16384 = hd s from rfl] at hh
  have hat : atOf s = s.size - (hd s).2.1.size := rfl
  unfold nxt at *
  split at h
  · exact absurd h (by decide)
  · rename_i h0
    split at h
    · exact absurd h (by decide)
    · rename_i h1
      split at h
      · rename_i h2; exact absurd h h2
      · rename_i h2
        split at h
        · exact absurd h (by decide)
        · rename_i h3
          split at h
          · exact absurd h (by decide)
          · rename_i h4
            rw [if_neg h0, if_neg h1, if_neg h2, if_neg h3, if_neg h4]
            obtain ⟨_, i1, i2, i3, i4⟩ := hh (by simpa using h2)
            have hs := head_split s h0
            have hb : bt s 0 = 215 := by simpa using h1
            rw [hb, i1] at hs
            have hss : s.size = 1 + ((encB (hd s).1).size + (hd s).2.1.size) := by
              conv => lhs; rw [hs]
              rw [ByteArray.size_append, ByteArray.size_append, mark_size]
            generalize hd s = q at *
            generalize atOf s = a at *
            obtain ⟨n, r, e⟩ := q
            obtain ⟨k, rfl⟩ : ∃ k : Nat, n = (k : Int) := ⟨n.toNat, by dsimp only at *; omega⟩
            simp only [Int.toNat_natCast] at *
            have ha : a = 1 + (encB (k : Int)).size := by omega
            have er : r = r.extract 0 k ++ r.extract k r.size := extract_both r k
            have er2 : r.extract k r.size = (r.extract k r.size).extract 0 4 ++ (r.extract k r.size).extract 4 (r.extract k r.size).size := extract_both _ 4
            generalize hp : r.extract 0 k = p at *
            generalize hu : r.extract k r.size = u at *
            generalize hf : u.extract 0 4 = f at *
            generalize ht : u.extract 4 u.size = t at *
            have hps : p.size = k := by rw [← hp, ByteArray.size_extract]; omega
            have hus : u.size = r.size - k := by rw [← hu, ByteArray.size_extract]; omega
            have hfs : f.size = 4 := by rw [← hf, ByteArray.size_extract]; omega
            have e0 : s = strOfNums [215] ++ (encB (k : Int) ++ (p ++ (f ++ t))) := by rw [← er2, ← er]; exact hs
            have hke : encB (k : Int) ++ p = encT p := by unfold encT; rw [hps]
            have x1 : s.extract a (a + k) = p := by
              rw [e0, show strOfNums [215] ++ (encB (k : Int) ++ (p ++ (f ++ t))) = (strOfNums [215] ++ encB (k : Int)) ++ p ++ (f ++ t) by simp only [ByteArray.append_assoc]]
              exact extract_mid _ _ _ _ _ (by rw [ByteArray.size_append, mark_size]; exact ha) (by rw [ByteArray.size_append, mark_size]; omega)
            have x2 : s.extract (a + k) (a + k + 4) = f := by
              rw [e0, show strOfNums [215] ++ (encB (k : Int) ++ (p ++ (f ++ t))) = (strOfNums [215] ++ encB (k : Int) ++ p) ++ f ++ t by simp only [ByteArray.append_assoc]]
              exact extract_mid _ _ _ _ _ (by rw [ByteArray.size_append, ByteArray.size_append, mark_size]; omega) (by rw [ByteArray.size_append, ByteArray.size_append, mark_size]; omega)
            have x3 : s.extract 1 (a + k) = encT p := by
              rw [e0, show strOfNums [215] ++ (encB (k : Int) ++ (p ++ (f ++ t))) = strOfNums [215] ++ (encB (k : Int) ++ p) ++ (f ++ t) by simp only [ByteArray.append_assoc], hke]
              exact extract_mid _ _ _ _ _ mark_size.symm (by rw [mark_size, ← hke, ByteArray.size_append]; omega)
            rw [x2, x3] at h4
            have hf2 : four (sumN (encT p)) = f := by simpa using h4
            refine ⟨t, ?_, ?_, ?_⟩
            · show s = frm (s.extract a (a + k)) ++ t
              rw [x1]
              unfold frm
              rw [hf2, ← hke]
              simp only [ByteArray.append_assoc]
              exact e0
            · show (s.extract a (a + k)).size ≤ 16384
              rw [x1, hps]; omega
            · show ((a + k + 4 : Nat) : Int) = _
              rw [x1, frm_size, hps]; omega
/-- Neither of two frames begins the other. -/
theorem frm_apart (p q t : ByteArray) (hp : p.size ≤ 16384) (hq : q.size ≤ 16384) (h : frm q = frm p ++ t) : p = q := by
  have h1 := nxt_frm p t hp
  have h2 := nxt_frm q ByteArray.empty hq
  rw [ByteArray.append_empty, h, h1] at h2
  exact (Prod.mk.inj h2).1
end Go.Proofs.Ytccdmedhkbabpaa
/- The document's sum, frames, Reader and Next are the program's. Conditions: those that each theorem names. -/
namespace Go.Proofs.Ytccdmedhkbabpaa
open Go.RowKit Go.Proofs.YtccdmedhkbabpaaW.PrintWords PRd PFr

/-! ### The document's Next -/
theorem append_cancel (a b c : ByteArray) (h : a ++ b = a ++ c) : b = c := by
  have h2 := congrArg bytesOf h
  rw [bytesOf_append, bytesOf_append] at h2
  exact bytes_ext (List.append_cancel_left h2)
end Go.Proofs.Ytccdmedhkbabpaa
/- A drum as a state: its room, its fuel, whether it is down, its areas; what a store leaves of it. Conditions: those that each theorem names. -/
namespace Go.Proofs.Ytccdmedhkbabpaa
open Go.RowKit Go.Proofs.YtccdmedhkbabpaaW.PrintWords

section
variable {P : Program} (w : World)
end

section
variable {P : Program} {ops : Array Oper} {rest : List Oper} {o : Oper} {a : Act} {Q : Exit → Act → World → Prop}
end


/-- An area: its bytes, and how many of them are sure. -/
abbrev Ar := Option (ByteArray × Nat)
/-- The pointer at an area's place. -/
def ptr (a : Ar) (k : Nat) : Value := if a.isSome then .pointer (some ⟨k, 0, none⟩) else .pointer none
def upd {α : Type} (f : Nat → α) (n : Nat) (x : α) : Nat → α := fun i => if i = n then x else f i
theorem upd_at {α : Type} (f : Nat → α) (n : Nat) (x : α) : upd f n x n = x := if_pos rfl
theorem upd_ne {α : Type} (f : Nat → α) {n i : Nat} (x : α) (h : i ≠ n) : upd f n x i = f i := if_neg h
def dcells (room left : Int) (down : Bool) (P : Nat → Value) : Array Value := #[.int .i64 room, .int .i64 left, .bool down, P 0, P 1, P 2, P 3]
theorem dcells_at (room left : Int) (down : Bool) (P : Nat → Value) (n : Nat) (h : n < 4) : (dcells room left down P)[3 + n]? = some (P n) := by
  rcases (show n = 0 ∨ n = 1 ∨ n = 2 ∨ n = 3 by omega) with rfl | rfl | rfl | rfl <;> rfl
theorem dcells_set (room left : Int) (down : Bool) (P : Nat → Value) (n : Nat) (h : n < 4) (x : Value) : (dcells room left down P).setIfInBounds (3 + n) x = dcells room left down (upd P n x) := by
  rcases (show n = 0 ∨ n = 1 ∨ n = 2 ∨ n = 3 by omega) with rfl | rfl | rfl | rfl <;> rfl
/-- What else is there: blocks of other types, each with what it holds. -/
def NoX : Nat → Obj → Prop := fun _ _ => False
def XOk (o : Obj) : Prop := ∃ cs t fr, o = .cells cs t fr ∧ t ≠ 67 ∧ t ≠ 84 ∧ t ≠ 5
structure IsD (X : Nat → Obj → Prop) (w0 W : World) (g : Nat) (room left : Int) (down : Bool) (A : Nat → Ar) (K : Nat → Nat) (V : Nat → Value) : Prop where
  hb : W.heap[g]? = some (.cells (dcells room left down fun i => ptr (A i) (K i)) 67 (0, 0))
  hg : w0.heap.size ≤ g
  ha : ∀ i, i < 4 → ∀ b s, A i = some (b, s) → W.heap[K i]? = some (.cells #[V i, .int .i64 (s : Int)] 84 (0, 0)) ∧ w0.heap.size ≤ K i ∧ W.ownsRow w0.heap.size 5 1 (V i) b.size (nums .u8 (bytesOf b))
  hs : ∀ i j, i < 4 → j < 4 → i ≠ j → (A i).isSome = true → (A j).isSome = true → K i ≠ K j ∧ NeRow (V i) (V j)
  hx : ∀ k o, X k o → W.heap[k]? = some o ∧ XOk o
theorem lt_of_at {W : World} {k : Nat} {o : Obj} (h : W.heap[k]? = some o) : k < W.heap.size := (Array.getElem?_eq_some_iff.1 h).1
theorem row_ne {W : World} {base n g : Nat} {e t : TypeId} {v : Value} {xs : List Value} {cs : Array Value} {fr : Nat × Nat} (h : W.ownsRow base e 1 v n xs) (hb : W.heap[g]? = some (.cells cs t fr)) (ht : t ≠ e) : ∀ k, v.ownBlock = some k → k ≠ g := by
  intro k hk he
  subst he
  rcases h.2 with ⟨rfl, _⟩ | ⟨k', cap, cur, rfl, _, hh, _⟩
  · simp [Value.ownBlock] at hk
  · have : k' = k := by simpa [Value.ownBlock] using hk
    subst this
    rw [hh] at hb
    injection hb with hb
    injection hb with _ hb
    exact ht hb.symm
theorem blk_ty {W : World} {k g : Nat} {t t' : TypeId} {cs cs' : Array Value} {fr fr' : Nat × Nat} (h : W.heap[k]? = some (.cells cs t fr)) (h' : W.heap[g]? = some (.cells cs' t' fr')) (ht : t ≠ t') : k ≠ g := by
  rintro rfl
  rw [h] at h'
  injection h' with h'
  injection h' with _ h'
  exact ht h'
section
variable {X : Nat → Obj → Prop} {w0 W W1 : World} {g : Nat} {room left : Int} {down : Bool} {A : Nat → Ar} {K : Nat → Nat} {V : Nat → Value}
theorem IsD.more {Y : Nat → Obj → Prop} (h : IsD X w0 W g room left down A K V) (hy : ∀ k o, Y k o → W.heap[k]? = some o ∧ XOk o) : IsD Y w0 W g room left down A K V := ⟨h.hb, h.hg, h.ha, h.hs, hy⟩
/-- Nothing of it is touched. -/
theorem IsD.move (h : IsD X w0 W g room left down A K V) (hm : ∀ k, k < W.heap.size → W1.heap[k]? = W.heap[k]?) : IsD X w0 W1 g room left down A K V := by
  refine ⟨(hm g (lt_of_at h.hb)).trans h.hb, h.hg, fun i hi b s e => ?_, h.hs, fun k o hk => ⟨(hm k (lt_of_at (h.hx k o hk).1)).trans (h.hx k o hk).1, (h.hx k o hk).2⟩⟩
  obtain ⟨h1, h2, h3⟩ := h.ha i hi b s e
  exact ⟨(hm _ (lt_of_at h1)).trans h1, h2, own_move h3 fun k hk => hm k (own_lt h3 k hk)⟩
theorem IsD.below (h : IsD X w0 W g room left down A K V) (hb : Below W.heap.size W W1) : IsD X w0 W1 g room left down A K V := h.move hb.block
theorem IsD.alloc (h : IsD X w0 W g room left down A K V) (o : Obj) : IsD X w0 (W.alloc o) g room left down A K V := h.below (below_alloc (Below.refl _ _) o)
theorem IsD.drew (h : IsD X w0 W g room left down A K V) : IsD X w0 W.drew g room left down A K V := h.move fun _ _ => rfl
/-- A store into the drum's own block. -/
theorem IsD.store (h : IsD X w0 W g room left down A K V) (j : Nat) (x : Value) {room' left' : Int} {down' : Bool} {A' : Nat → Ar} {K' : Nat → Nat} {V' : Nat → Value} (hc : (dcells room left down fun i => ptr (A i) (K i)).setIfInBounds j x = dcells room' left' down' fun i => ptr (A' i) (K' i))
    (ha : ∀ i, i < 4 → ∀ b s, A' i = some (b, s) → W.heap[K' i]? = some (.cells #[V' i, .int .i64 (s : Int)] 84 (0, 0)) ∧ w0.heap.size ≤ K' i ∧ W.ownsRow w0.heap.size 5 1 (V' i) b.size (nums .u8 (bytesOf b)))
    (hs : ∀ i j, i < 4 → j < 4 → i ≠ j → (A' i).isSome = true → (A' j).isSome = true → K' i ≠ K' j ∧ NeRow (V' i) (V' j)) : IsD X w0 (W.setCell ⟨g, j, none⟩ x) g room' left' down' A' K' V' := by
  have hb := h.hb
  have hm : ∀ k, k ≠ g → (W.setCell ⟨g, j, none⟩ x).heap[k]? = W.heap[k]? := fun k hk => Below.heap_setCell W ⟨g, j, none⟩ x k hk
  refine ⟨?_, h.hg, fun i hi b s e => ?_, hs, fun k o hk => ⟨(hm k ?_).trans (h.hx k o hk).1, (h.hx k o hk).2⟩⟩
  rotate_left 2
  · obtain ⟨h1, cs, t, fr, rfl, h2, _, _⟩ := h.hx k o hk
    exact blk_ty h1 hb h2
  · rw [← hc]
    simp only [World.setCell, Array.getElem?_modify, hb]
    simp
  · obtain ⟨h1, h2, h3⟩ := ha i hi b s e
    exact ⟨(hm _ (blk_ty h1 hb (by decide))).trans h1, h2, own_move h3 fun k hk => hm k (row_ne h3 hb (by decide) k hk)⟩
theorem IsD.setLeft (h : IsD X w0 W g room left down A K V) (x : Int) : IsD X w0 (W.setCell ⟨g, 1, none⟩ (.int .i64 x)) g room x down A K V := h.store 1 _ rfl h.ha h.hs
theorem IsD.setDown (h : IsD X w0 W g room left down A K V) (x : Bool) : IsD X w0 (W.setCell ⟨g, 2, none⟩ (.bool x)) g room left x A K V := h.store 2 _ rfl h.ha h.hs
theorem IsD.lay (h : IsD X w0 W g room left down A K V) (hw : w0.heap.size ≤ W.heap.size) (n : Nat) (hn : n < 4) :
    IsD X w0 ((W.alloc (.cells #[.slice none 0 0, .int .i64 0] 84)).setCell ⟨g, 3 + n, none⟩ (.pointer (some ⟨W.heap.size, 0, none⟩))) g room left down (upd A n (some (ByteArray.empty, 0))) (upd K n W.heap.size) (upd V n (.slice none 0 0)) := by
  have h1 := h.alloc (.cells #[.slice none 0 0, .int .i64 0] 84)
  refine h1.store (3 + n) _ ?_ ?_ ?_
  · rw [dcells_set _ _ _ _ n hn]
    congr 1
    funext i
    by_cases e : i = n
    · subst e; rw [upd_at, upd_at, upd_at]; rfl
    · rw [upd_ne _ _ e, upd_ne _ _ e, upd_ne _ _ e]
  · intro i hi b s e
    by_cases en : i = n
    · subst en
      rw [upd_at] at e ⊢
      rw [upd_at]
      injection e with e
      injection e with e1 e2
      subst e1 e2
      exact ⟨heap_alloc_new W _, hw, own_nil _ _ _ _⟩
    · rw [upd_ne _ _ en] at e ⊢
      rw [upd_ne _ _ en]
      exact h1.ha i hi b s e
  · intro i j hi hj hij e1 e2
    have hk : ∀ i, i < 4 → (A i).isSome = true → K i < W.heap.size := by
      intro i hi e
      obtain ⟨⟨b, s⟩, e⟩ := Option.isSome_iff_exists.1 e
      exact lt_of_at (h.ha i hi b s e).1
    have nn : ∀ v : Value, NeRow (.slice none 0 0) v := fun v k hk => by simp [Value.ownBlock] at hk
    have nn2 : ∀ v : Value, NeRow v (.slice none 0 0) := fun v k hk => by simp [Value.ownBlock]
    by_cases a : i = n
    · subst a
      rw [upd_ne _ _ (Ne.symm hij)] at e2
      rw [upd_at, upd_at, upd_ne _ _ (Ne.symm hij), upd_ne _ _ (Ne.symm hij)]
      have := hk j hj e2
      exact ⟨by omega, nn _⟩
    · rw [upd_ne _ _ a] at e1
      by_cases b : j = n
      · subst b
        rw [upd_at, upd_at, upd_ne _ _ a, upd_ne _ _ a]
        have := hk i hi e1
        exact ⟨by omega, nn2 _⟩
      · rw [upd_ne _ _ b] at e2
        rw [upd_ne _ _ a, upd_ne _ _ a, upd_ne _ _ b, upd_ne _ _ b]
        exact h.hs i j hi hj hij e1 e2
theorem IsD.cut (h : IsD X w0 W g room left down A K V) (n : Nat) (hn : n < 4) : IsD X w0 (W.setCell ⟨g, 3 + n, none⟩ (.pointer none)) g room left down (upd A n none) K V := by
  refine h.store (3 + n) _ ?_ ?_ ?_
  · rw [dcells_set _ _ _ _ n hn]
    congr 1
    funext i
    by_cases e : i = n
    · subst e; rw [upd_at, upd_at]; rfl
    · rw [upd_ne _ _ e, upd_ne _ _ e]
  · intro i hi b s e
    by_cases en : i = n
    · subst en; rw [upd_at] at e; cases e
    · rw [upd_ne _ _ en] at e; exact h.ha i hi b s e
  · intro i j hi hj hij e1 e2
    by_cases a : i = n
    · subst a; rw [upd_at] at e1; cases e1
    · by_cases b : j = n
      · subst b; rw [upd_at] at e2; cases e2
      · rw [upd_ne _ _ a] at e1; rw [upd_ne _ _ b] at e2; exact h.hs i j hi hj hij e1 e2
/-- One area is another one now: its block, and a row of its own, where it was or new. -/
theorem IsD.area (h : IsD X w0 W g room left down A K V) (n : Nat) (hn : n < 4) {b0 b : ByteArray} {s0 s : Nat} {v : Value} (hA : A n = some (b0, s0))
    (hb : W1.heap[K n]? = some (.cells #[v, .int .i64 (s : Int)] 84 (0, 0))) (ho : W1.ownsRow w0.heap.size 5 1 v b.size (nums .u8 (bytesOf b))) (hat : v.ownBlock = (V n).ownBlock ∨ v.ownBlock = none ∨ ∃ k, v.ownBlock = some k ∧ W.heap.size ≤ k)
    (hm : ∀ k, k < W.heap.size → k ≠ K n → some k ≠ (V n).ownBlock → W1.heap[k]? = W.heap[k]?) : IsD X w0 W1 g room left down (upd A n (some (b, s))) K (upd V n v) := by
  obtain ⟨h1, h2, h3⟩ := h.ha n hn b0 s0 hA
  have hsome : (A n).isSome = true := by rw [hA]; rfl
  have hp : (fun i => ptr (upd A n (some (b, s)) i) (K i)) = fun i => ptr (A i) (K i) := by
    funext i
    by_cases e : i = n
    · subst e; rw [upd_at]; unfold ptr; rw [hsome]; rfl
    · rw [upd_ne _ _ e]
  refine ⟨?_, h.hg, ?_, ?_, fun k o hk => ⟨(hm k (lt_of_at (h.hx k o hk).1) ?_ ?_).trans (h.hx k o hk).1, (h.hx k o hk).2⟩⟩
  rotate_left 3
  · obtain ⟨g1, cs, t, fr, rfl, _, g2, _⟩ := h.hx k o hk
    exact blk_ty g1 h1 g2
  · obtain ⟨g1, cs, t, fr, rfl, _, _, g2⟩ := h.hx k o hk
    intro e
    exact row_ne h3 g1 g2 k e.symm rfl
  · rw [hp]
    refine (hm g (lt_of_at h.hb) (blk_ty h.hb h1 (by decide)) ?_).trans h.hb
    intro e
    exact row_ne h3 h.hb (by decide) g e.symm rfl
  · intro i hi b' s' e
    by_cases en : i = n
    · subst en
      rw [upd_at] at e ⊢
      injection e with e
      injection e with e1 e2
      subst e1 e2
      exact ⟨hb, h2, ho⟩
    · rw [upd_ne _ _ en] at e ⊢
      obtain ⟨i1, i2, i3⟩ := h.ha i hi b' s' e
      obtain ⟨d1, d2⟩ := h.hs i n hi hn en (by rw [e]; rfl) hsome
      refine ⟨(hm _ (lt_of_at i1) d1 ?_).trans i1, i2, own_move i3 fun k hk => hm k (own_lt i3 k hk) (row_ne i3 h1 (by decide) k hk) ?_⟩
      · intro he; exact row_ne h3 i1 (by decide) _ he.symm rfl
      · exact fun he => d2 k hk he.symm
  · intro i j hi hj hij e1 e2
    have hsm : ∀ i, (upd A n (some (b, s)) i).isSome = true → (A i).isSome = true := by
      intro i e
      by_cases en : i = n
      · subst en; exact hsome
      · rwa [upd_ne _ _ en] at e
    obtain ⟨d1, d2⟩ := h.hs i j hi hj hij (hsm i e1) (hsm j e2)
    refine ⟨d1, ?_⟩
    have hlt : ∀ i, i < 4 → (A i).isSome = true → ∀ k, (V i).ownBlock = some k → k < W.heap.size := by
      intro i hi e
      obtain ⟨⟨b, s⟩, e⟩ := Option.isSome_iff_exists.1 e
      exact own_lt (h.ha i hi b s e).2.2
    by_cases a : i = n
    · subst a
      rw [upd_at, upd_ne _ _ (Ne.symm hij)]
      rcases hat with hat | hat | ⟨k, hat, hk⟩
      · intro k hk; exact d2 k (hat.symm.trans hk)
      · intro k hk; rw [hat] at hk; cases hk
      · intro k' hk' e
        rw [hat] at hk'
        injection hk' with hk'
        subst hk'
        have := hlt j hj (hsm j e2) k e
        omega
    · rw [upd_ne _ _ a]
      by_cases b' : j = n
      · subst b'
        rw [upd_at]
        rcases hat with hat | hat | ⟨k, hat, hk⟩
        · intro k hk; rw [hat]; exact d2 k hk
        · intro k hk; rw [hat]; simp
        · intro k' hk' e
          rw [hat] at e
          injection e with e
          subst e
          have := hlt i hi (hsm i e1) k hk'
          omega
      · rw [upd_ne _ _ b']; exact d2
end
end Go.Proofs.Ytccdmedhkbabpaa
/- The drum's functions: what each answers and leaves. Conditions: those that each theorem names. -/
namespace Go.Proofs.Ytccdmedhkbabpaa
open Go.RowKit Go.Proofs.YtccdmedhkbabpaaW.PrintWords

section
variable {X : Nat → Obj → Prop} {w0 w : World} {g : Nat} {room left : Int} {down : Bool} {A : Nat → Ar} {K : Nat → Nat} {V : Nat → Value}
theorem ptr_none {a : Ar} {k : Nat} (h : a = none) : ptr a k = .pointer none := by subst h; rfl
theorem ptr_some {a : Ar} {k : Nat} {x : ByteArray × Nat} (h : a = some x) : ptr a k = .pointer (some ⟨k, 0, none⟩) := by subst h; rfl
theorem IsD.c0 (h : IsD X w0 w g room left down A K V) : w.cell? ⟨g, 0, none⟩ = some (.int .i64 room) := (blk_cell h.hb 0).trans rfl
theorem IsD.c1 (h : IsD X w0 w g room left down A K V) : w.cell? ⟨g, 1, none⟩ = some (.int .i64 left) := (blk_cell h.hb 1).trans rfl
theorem IsD.c2 (h : IsD X w0 w g room left down A K V) : w.cell? ⟨g, 2, none⟩ = some (.bool down) := (blk_cell h.hb 2).trans rfl
theorem IsD.cp (h : IsD X w0 w g room left down A K V) (n : Nat) (hn : n < 4) : w.cell? ⟨g, 3 + n, none⟩ = some (ptr (A n) (K n)) := (blk_cell h.hb (3 + n)).trans (dcells_at _ _ _ _ n hn)
theorem IsD.f (h : IsD X w0 w g room left down A K V) (n : Nat) : w.frozen? ⟨g, n, none⟩ = false := blk_frozen h.hb n

theorem down_calls (hI : IsD X w0 w g room left down A K V) : Calls Try.prog 16 #[.pointer (some ⟨g, 0, none⟩)] w fun e w' => e = .returned (.bool down) ∧ w' = w := by
  have c2 := hI.c2
  clear hI
  go_enter Try.func16, Try.ntmps16
  go_wp2
  go_ret
  exact ⟨rfl, rfl⟩
theorem fuel_calls (n : Int) (hI : IsD X w0 w g room left down A K V) (hB : Below w0.heap.size w0 w) : Calls Try.prog 13 #[.pointer (some ⟨g, 0, none⟩), .int .i64 n] w fun e w' => e = .returned (.tuple #[]) ∧ IsD X w0 w' g room (max n (-1)) down A K V ∧ Below w0.heap.size w0 w' := by
  have c1 := hI.c1
  have f1 := hI.f 1
  have HI := Lib.hid hI
  have HB := Lib.hid hB
  clear hI hB
  go_enter Try.func13, Try.ntmps13
  go_wp2
  go_end0
  exact ⟨rfl, HI.out.setLeft _, HB.out.setCell HI.out.hg _⟩
theorem there_calls (a : Ar) (k : Nat) (w : World) : Calls Try.prog 47 #[ptr a k] w fun e w' => e = .returned (.int .i64 (if a.isSome then 0 else 12)) ∧ w' = w := by
  cases a with
  | none =>
    show Calls Try.prog _ #[.pointer none] w _
    go_enter Try.func47, Try.ntmps47
    go_wp2
    go_ret
    exact ⟨rfl, rfl⟩
  | some x =>
    show Calls Try.prog _ #[.pointer (some ⟨k, 0, none⟩)] w _
    go_enter Try.func47, Try.ntmps47
    go_wp2
    go_ret
    exact ⟨rfl, rfl⟩
theorem lay1_calls (a : Ar) (k : Nat) (w : World) : Calls Try.prog 77 #[ptr a k] w fun e w' => e = .returned (.int .i64 (if a.isSome then 1 else 0)) ∧ w' = w := by
  cases a with
  | none =>
    show Calls Try.prog _ #[.pointer none] w _
    go_enter Try.func77, Try.ntmps77
    go_wp2
    go_ret
    exact ⟨rfl, rfl⟩
  | some x =>
    show Calls Try.prog _ #[.pointer (some ⟨k, 0, none⟩)] w _
    go_enter Try.func77, Try.ntmps77
    go_wp2
    go_ret
    exact ⟨rfl, rfl⟩
theorem lay2_calls (n : Nat) (hn : n < 4) (hI : IsD X w0 w g room left down A K V) (hB : Below w0.heap.size w0 w) : Calls Try.prog 78 #[.pointer (some ⟨g, 3 + n, none⟩)] w fun e w' => e = .returned (.tuple #[]) ∧
    (∃ K' V', IsD X w0 w' g room left down (upd A n (some (ByteArray.empty, 0))) K' V') ∧ Below w0.heap.size w0 w' := by
  have cp := (hI.alloc (.cells #[.slice none 0 0, .int .i64 0] 84)).cp n hn
  have cp0 := hI.cp n hn
  have fp := (hI.alloc (.cells #[.slice none 0 0, .int .i64 0] 84)).f (3 + n)
  have fp0 := hI.f (3 + n)
  have HI := Lib.hid hI
  have HB := Lib.hid hB
  clear hI hB
  generalize ptr (A n) (K n) = pv at *
  go_enter Try.func78, Try.ntmps78
  go_wp2
  go_end0
  exact ⟨rfl, ⟨_, _, HI.out.lay HB.out.size n hn⟩, (below_alloc' HB.out _).setCell HI.out.hg _⟩
theorem cut1_calls (n : Nat) (hn : n < 4) (hI : IsD X w0 w g room left down A K V) (hB : Below w0.heap.size w0 w) : Calls Try.prog 48 #[.pointer (some ⟨g, 3 + n, none⟩)] w fun e w' => e = .returned (.tuple #[]) ∧
    (∃ K' V', IsD X w0 w' g room left down (upd A n none) K' V') ∧ Below w0.heap.size w0 w' := by
  have cp0 := hI.cp n hn
  have fp0 := hI.f (3 + n)
  have HI := Lib.hid hI
  have HB := Lib.hid hB
  clear hI hB
  generalize ptr (A n) (K n) = pv at *
  go_enter Try.func48, Try.ntmps48
  go_wp2
  go_end0
  exact ⟨rfl, ⟨_, _, HI.out.cut n hn⟩, HB.out.setCell HI.out.hg _⟩
/-- A store into an area's block. -/
theorem area_store {W : World} {k : Nat} {v : Value} {s : Int} {fr : Nat × Nat} (h : W.heap[k]? = some (.cells #[v, .int .i64 s] 84 fr)) (s' : Int) : (W.setCell ⟨k, 1, none⟩ (.int .i64 s')).heap[k]? = some (.cells #[v, .int .i64 s'] 84 fr) := by
  simp only [World.setCell, Array.getElem?_modify, h]
  simp
theorem area_store0 {W : World} {k : Nat} {v v' : Value} {s : Value} {fr : Nat × Nat} (h : W.heap[k]? = some (.cells #[v, s] 84 fr)) : (W.setCell ⟨k, 0, none⟩ v').heap[k]? = some (.cells #[v', s] 84 fr) := by
  simp only [World.setCell, Array.getElem?_modify, h]
  simp
theorem IsD.setSure (h : IsD X w0 w g room left down A K V) (n : Nat) (hn : n < 4) {b : ByteArray} {s : Nat} (hA : A n = some (b, s)) (s' : Nat) : IsD X w0 (w.setCell ⟨K n, 1, none⟩ (.int .i64 (s' : Int))) g room left down (upd A n (some (b, s'))) K (upd V n (V n)) := by
  obtain ⟨h1, h2, h3⟩ := h.ha n hn b s hA
  refine h.area n hn hA (area_store h1 _) (own_move h3 fun k hk => Below.heap_setCell w ⟨K n, 1, none⟩ _ k (row_ne h3 h1 (by decide) k hk)) (.inl rfl) (fun k _ hk _ => Below.heap_setCell w ⟨K n, 1, none⟩ _ k hk)
theorem all_calls (n : Nat) (hn : n < 4) {b : ByteArray} {s : Nat} (hA : A n = some (b, s)) (hI : IsD X w0 w g room left down A K V) (hB : Below w0.heap.size w0 w) : Calls Try.prog 34 #[.pointer (some ⟨K n, 0, none⟩)] w fun e w' => e = .returned (.tuple #[]) ∧
    (∃ K' V', IsD X w0 w' g room left down (upd A n (some (b, b.size))) K' V') ∧ Below w0.heap.size w0 w' := by
  obtain ⟨h1, h2, h3⟩ := hI.ha n hn b s hA
  have c0 : w.cell? ⟨K n, 0, none⟩ = some (V n) := (blk_cell h1 0).trans rfl
  have c1 : w.cell? ⟨K n, 1, none⟩ = some (.int .i64 (s : Int)) := (blk_cell h1 1).trans rfl
  have f1 := blk_frozen h1 1
  obtain ⟨R, c, hv⟩ := own_slice h3
  rw [hv] at c0
  have HI := Lib.hid hI
  have HB := Lib.hid hB
  have H2 := Lib.hid h2
  clear hI hB h1 h3 hv h2
  have HE := Lib.hid (HI.out.setSure n hn hA b.size)
  generalize K n = kn at *
  go_enter Try.func34, Try.ntmps34
  go_wp2
  go_end0
  exact ⟨rfl, ⟨_, _, HE.out⟩, HB.out.setCell H2.out _⟩
theorem sync1_calls (n : Nat) (hn : n < 4) {b : ByteArray} {s : Nat} (hA : A n = some (b, s)) (hI : IsD X w0 w g room left down A K V) (hB : Below w0.heap.size w0 w) : Calls Try.prog 84 #[.pointer (some ⟨g, 3 + n, none⟩)] w fun e w' => e = .returned (.tuple #[]) ∧
    (∃ K' V', IsD X w0 w' g room left down (upd A n (some (b, b.size))) K' V') ∧ Below w0.heap.size w0 w' := by
  have cp0 := hI.cp n hn
  rw [ptr_some hA] at cp0
  have HC := Lib.hid (all_calls n hn hA hI hB)
  clear hI hB
  go_enter Try.func84, Try.ntmps84
  go_wp2_with fail
  refine HC.out.mono ?_
  rintro e w1 ⟨rfl, h⟩
  have H := Lib.hid h
  clear h
  go_wp2
  go_end0
  exact ⟨rfl, H.out⟩
/-- What a step is refused for; what it does. -/
def layRef (a : Ar) : Int := if a.isSome then 1 else 0
def thereRef (a : Ar) : Int := if a.isSome then 0 else 12
def layAct (_ : Ar) : Ar := some (ByteArray.empty, 0)
def cutAct (_ : Ar) : Ar := none
def syncAct (a : Ar) : Ar := a.map fun x => (x.1, x.1.size)
/-- What a step leaves: its answer, and the drum behind it. -/
def stepR (left : Int) (down : Bool) (A : Nat → Ar) (n : Int) (refuse : Ar → Int) (act : Ar → Ar) : Int × Int × Bool × (Nat → Ar) :=
  if down then (11, left, down, A) else if n < 0 ∨ 4 ≤ n then (1, left, down, A) else if refuse (A n.toNat) ≠ 0 then (refuse (A n.toNat), left, down, A)
  else if left = 0 then (11, left, true, A) else (0, max (left - 1) (-1), down, upd A n.toNat (act (A n.toNat)))
/-- The drum behind it, wherever its areas lie by now. -/
def AtD (X : Nat → Obj → Prop) (w0 w' : World) (g : Nat) (room : Int) (r : Int × Int × Bool × (Nat → Ar)) : Prop := (∃ K' V', IsD X w0 w' g room r.2.1 r.2.2.1 r.2.2.2 K' V') ∧ Below w0.heap.size w0 w'
theorem AtD.drew {w' : World} {r : Int × Int × Bool × (Nat → Ar)} (h : AtD X w0 w' g room r) : AtD X w0 w'.drew g room r := by
  obtain ⟨⟨K', V', h1⟩, h2⟩ := h
  exact ⟨⟨K', V', h1.drew⟩, below_drew1 h2⟩
set_option maxRecDepth 100000 in
set_option maxHeartbeats 4000000 in
theorem step_lay (n : Int) (hI : IsD X w0 w g room left down A K V) (hB : Below w0.heap.size w0 w) (hl : -1 ≤ left ∧ left ≤ 9223372036854775807) (hn64 : -9223372036854775808 ≤ n ∧ n ≤ 9223372036854775807) :
    Calls Try.prog 46 #[.pointer (some ⟨g, 0, none⟩), .int .i64 n, .func (Fn.func 77) #[] #[], .func (Fn.func 78) #[] #[]] w fun e w' => e = .returned (.int .i64 (stepR left down A n layRef layAct).1) ∧ AtD X w0 w' g room (stepR left down A n layRef layAct) := by
  have HI := Lib.hid hI
  have HB := Lib.hid hB
  clear hI hB
  cases down with
  | true =>
    have HR : Hid (stepR left true A n layRef layAct = (11, left, true, A)) := Lib.hid (by unfold stepR; rw [if_pos rfl])
    rw [HR.out]
    go_enter Try.func46, Try.ntmps46
    go_wp2_with fail
    refine (down_calls HI.out).mono ?_
    rintro e w1 ⟨rfl, rfl⟩
    go_wp2_with fail
    go_ret
    exact ⟨rfl, ⟨_, _, HI.out⟩, HB.out⟩
  | false =>
    rcases (show (n < 0 ∨ 4 ≤ n) ∨ (0 ≤ n ∧ n < 4) by omega) with hn | ⟨hn0, hn4⟩
    · have HR : Hid (stepR left false A n layRef layAct = (1, left, false, A)) := Lib.hid (by unfold stepR; rw [if_neg (by decide), if_pos hn])
      rw [HR.out]
      rcases hn with hn | hn
      ·
        go_enter Try.func46, Try.ntmps46
        go_wp2_with fail
        refine (down_calls HI.out).mono ?_
        rintro e w1 ⟨rfl, rfl⟩
        go_wp2_with fail
        go_ret
        exact ⟨rfl, ⟨_, _, HI.out⟩, HB.out⟩
      ·
        go_enter Try.func46, Try.ntmps46
        go_wp2_with fail
        refine (down_calls HI.out).mono ?_
        rintro e w1 ⟨rfl, rfl⟩
        go_wp2_with fail
        go_ret
        exact ⟨rfl, ⟨_, _, HI.out⟩, HB.out⟩
    · obtain ⟨i, rfl⟩ : ∃ i : Nat, n = (i : Int) := ⟨n.toNat, by omega⟩
      have hi : i < 4 := by omega
      have hcp := HI.out.cp i hi
      have c1 := HI.out.c1
      have f1 := HI.out.f 1
      have c2 := HI.out.c2
      have f2 := HI.out.f 2
      have HS : Hid (stepR left false A (i : Int) layRef layAct = if layRef (A i) ≠ 0 then (layRef (A i), left, false, A) else if left = 0 then (11, left, true, A) else (0, max (left - 1) (-1), false, upd A i (layAct (A i)))) := Lib.hid (by unfold stepR; rw [if_neg (by decide), if_neg (by omega), Int.toNat_natCast]; first | done | rfl)
      generalize hst : stepR left false A (i : Int) layRef layAct = st at *
      clear hst
      obtain ⟨hl0, hl1⟩ := hl
      have HCP := Lib.hid hcp
      clear hcp hn0
      generalize hpv : ptr (A i) (K i) = pv
      have cp : w.cell? ⟨g, 3 + i, none⟩ = some pv := by rw [← hpv]; exact HCP.out
      have HPV := Lib.hid hpv
      clear hpv HCP
      go_enter Try.func46, Try.ntmps46
      go_wp2_with fail
      refine (down_calls HI.out).mono ?_
      rintro e w1 ⟨rfl, rfl⟩
      go_wp2_with fail
      rw [← HPV.out]
      refine (lay1_calls (A i) (K i) _).mono ?_
      rintro e w2 ⟨rfl, rfl⟩
      rw [HPV.out]
      cases hA : A i with
      | none =>
        rw [hA] at HS
        have HA := Lib.hid hA
        clear hA
        rcases (show left = 0 ∨ left = -1 ∨ 1 ≤ left by omega) with h0 | h0 | h0
        · subst h0
          have HS2 : Hid (st = (11, 0, true, A)) := Lib.hid (by rw [HS.out]; first | rfl | (simp [layRef, thereRef]; done) | (simp [layRef, thereRef, layAct, cutAct, syncAct]))
          clear HS
          go_wp2_with fail
          go_ret
          rw [HS2.out]
          exact ⟨rfl, ⟨_, _, HI.out.setDown true⟩, HB.out.setCell HI.out.hg _⟩
        · subst h0
          have HS2 : Hid (st = (0, -1, false, upd A i (layAct (A i)))) := Lib.hid (by rw [HS.out, HA.out]; first | rfl | (simp [layRef, thereRef]; done) | (simp [layRef, thereRef, layAct, cutAct, syncAct]))
          have HI2 := Lib.hid (HI.out.setLeft (-1))
          have HB2 := Lib.hid (HB.out.setCell HI.out.hg (p := ⟨g, 1, none⟩) (.int .i64 (-1)))
          clear HS
          go_wp2_with fail
          refine (lay2_calls i hi HI2.out HB2.out).mono ?_
          rintro e w3 ⟨rfl, h3, h4⟩
          have H3 := Lib.hid h3
          have H4 := Lib.hid h4
          clear h3 h4
          go_wp2_with fail
          go_ret
          rw [HS2.out]
          exact ⟨rfl, by first | exact H3.out | (rw [HA.out]; exact H3.out), H4.out⟩
        · have HS2 : Hid (st = (0, left - 1, false, upd A i (layAct (A i)))) := Lib.hid (by rw [HS.out, HA.out, show max (left - 1) (-1) = left - 1 by omega]; rw [if_neg (by simp [layRef, thereRef]), if_neg (by omega)])
          have HI2 := Lib.hid (HI.out.setLeft (left - 1))
          have HB2 := Lib.hid (HB.out.setCell HI.out.hg (p := ⟨g, 1, none⟩) (.int .i64 (left - 1)))
          have hm1 : ¬ left = 0 := by omega
          have hm2 : max (left - 1) (-1) = left - 1 := by omega
          have hm3 : (-1 : Int) ≤ left - 1 := by omega
          clear HS
          go_wp2_with fail
          refine (lay2_calls i hi HI2.out HB2.out).mono ?_
          rintro e w3 ⟨rfl, h3, h4⟩
          have H3 := Lib.hid h3
          have H4 := Lib.hid h4
          clear h3 h4
          go_wp2_with fail
          go_ret
          rw [HS2.out]
          exact ⟨rfl, by first | exact H3.out | (rw [HA.out]; exact H3.out), H4.out⟩
      | some x =>
        rw [hA] at HS
        have HA := Lib.hid hA
        clear hA
        have HS2 : Hid (st = (1, left, false, A)) := Lib.hid (by rw [HS.out]; first | rfl | (simp [layRef, thereRef]; done) | (simp [layRef, thereRef, layAct, cutAct, syncAct]))
        clear HS
        go_wp2_with fail
        go_ret
        rw [HS2.out]
        exact ⟨rfl, ⟨_, _, HI.out⟩, HB.out⟩
set_option maxRecDepth 100000 in
set_option maxHeartbeats 4000000 in
theorem step_cut (n : Int) (hI : IsD X w0 w g room left down A K V) (hB : Below w0.heap.size w0 w) (hl : -1 ≤ left ∧ left ≤ 9223372036854775807) (hn64 : -9223372036854775808 ≤ n ∧ n ≤ 9223372036854775807) :
    Calls Try.prog 46 #[.pointer (some ⟨g, 0, none⟩), .int .i64 n, .func (Fn.func 47) #[] #[], .func (Fn.func 48) #[] #[]] w fun e w' => e = .returned (.int .i64 (stepR left down A n thereRef cutAct).1) ∧ AtD X w0 w' g room (stepR left down A n thereRef cutAct) := by
  have HI := Lib.hid hI
  have HB := Lib.hid hB
  clear hI hB
  cases down with
  | true =>
    have HR : Hid (stepR left true A n thereRef cutAct = (11, left, true, A)) := Lib.hid (by unfold stepR; rw [if_pos rfl])
    rw [HR.out]
    go_enter Try.func46, Try.ntmps46
    go_wp2_with fail
    refine (down_calls HI.out).mono ?_
    rintro e w1 ⟨rfl, rfl⟩
    go_wp2_with fail
    go_ret
    exact ⟨rfl, ⟨_, _, HI.out⟩, HB.out⟩
  | false =>
    rcases (show (n < 0 ∨ 4 ≤ n) ∨ (0 ≤ n ∧ n < 4) by omega) with hn | ⟨hn0, hn4⟩
    · have HR : Hid (stepR left false A n thereRef cutAct = (1, left, false, A)) := Lib.hid (by unfold stepR; rw [if_neg (by decide), if_pos hn])
      rw [HR.out]
      rcases hn with hn | hn
      ·
        go_enter Try.func46, Try.ntmps46
        go_wp2_with fail
        refine (down_calls HI.out).mono ?_
        rintro e w1 ⟨rfl, rfl⟩
        go_wp2_with fail
        go_ret
        exact ⟨rfl, ⟨_, _, HI.out⟩, HB.out⟩
      ·
        go_enter Try.func46, Try.ntmps46
        go_wp2_with fail
        refine (down_calls HI.out).mono ?_
        rintro e w1 ⟨rfl, rfl⟩
        go_wp2_with fail
        go_ret
        exact ⟨rfl, ⟨_, _, HI.out⟩, HB.out⟩
    · obtain ⟨i, rfl⟩ : ∃ i : Nat, n = (i : Int) := ⟨n.toNat, by omega⟩
      have hi : i < 4 := by omega
      have hcp := HI.out.cp i hi
      have c1 := HI.out.c1
      have f1 := HI.out.f 1
      have c2 := HI.out.c2
      have f2 := HI.out.f 2
      have HS : Hid (stepR left false A (i : Int) thereRef cutAct = if thereRef (A i) ≠ 0 then (thereRef (A i), left, false, A) else if left = 0 then (11, left, true, A) else (0, max (left - 1) (-1), false, upd A i (cutAct (A i)))) := Lib.hid (by unfold stepR; rw [if_neg (by decide), if_neg (by omega), Int.toNat_natCast]; first | done | rfl)
      generalize hst : stepR left false A (i : Int) thereRef cutAct = st at *
      clear hst
      obtain ⟨hl0, hl1⟩ := hl
      have HCP := Lib.hid hcp
      clear hcp hn0
      generalize hpv : ptr (A i) (K i) = pv
      have cp : w.cell? ⟨g, 3 + i, none⟩ = some pv := by rw [← hpv]; exact HCP.out
      have HPV := Lib.hid hpv
      clear hpv HCP
      go_enter Try.func46, Try.ntmps46
      go_wp2_with fail
      refine (down_calls HI.out).mono ?_
      rintro e w1 ⟨rfl, rfl⟩
      go_wp2_with fail
      rw [← HPV.out]
      refine (there_calls (A i) (K i) _).mono ?_
      rintro e w2 ⟨rfl, rfl⟩
      rw [HPV.out]
      cases hA : A i with
      | none =>
        rw [hA] at HS
        have HA := Lib.hid hA
        clear hA
        have HS2 : Hid (st = (12, left, false, A)) := Lib.hid (by rw [HS.out]; first | rfl | (simp [layRef, thereRef]; done) | (simp [layRef, thereRef, layAct, cutAct, syncAct]))
        clear HS
        go_wp2_with fail
        go_ret
        rw [HS2.out]
        exact ⟨rfl, ⟨_, _, HI.out⟩, HB.out⟩
      | some x =>
        rw [hA] at HS
        have HA := Lib.hid hA
        clear hA
        obtain ⟨b, s⟩ := x
        rcases (show left = 0 ∨ left = -1 ∨ 1 ≤ left by omega) with h0 | h0 | h0
        · subst h0
          have HS2 : Hid (st = (11, 0, true, A)) := Lib.hid (by rw [HS.out]; first | rfl | (simp [layRef, thereRef]; done) | (simp [layRef, thereRef, layAct, cutAct, syncAct]))
          clear HS
          go_wp2_with fail
          go_ret
          rw [HS2.out]
          exact ⟨rfl, ⟨_, _, HI.out.setDown true⟩, HB.out.setCell HI.out.hg _⟩
        · subst h0
          have HS2 : Hid (st = (0, -1, false, upd A i (cutAct (A i)))) := Lib.hid (by rw [HS.out, HA.out]; first | rfl | (simp [layRef, thereRef]; done) | (simp [layRef, thereRef, layAct, cutAct, syncAct]))
          have HI2 := Lib.hid (HI.out.setLeft (-1))
          have HB2 := Lib.hid (HB.out.setCell HI.out.hg (p := ⟨g, 1, none⟩) (.int .i64 (-1)))
          clear HS
          go_wp2_with fail
          refine (cut1_calls i hi HI2.out HB2.out).mono ?_
          rintro e w3 ⟨rfl, h3, h4⟩
          have H3 := Lib.hid h3
          have H4 := Lib.hid h4
          clear h3 h4
          go_wp2_with fail
          go_ret
          rw [HS2.out]
          exact ⟨rfl, by first | exact H3.out | (rw [HA.out]; exact H3.out), H4.out⟩
        · have HS2 : Hid (st = (0, left - 1, false, upd A i (cutAct (A i)))) := Lib.hid (by rw [HS.out, HA.out, show max (left - 1) (-1) = left - 1 by omega]; rw [if_neg (by simp [layRef, thereRef]), if_neg (by omega)])
          have HI2 := Lib.hid (HI.out.setLeft (left - 1))
          have HB2 := Lib.hid (HB.out.setCell HI.out.hg (p := ⟨g, 1, none⟩) (.int .i64 (left - 1)))
          have hm1 : ¬ left = 0 := by omega
          have hm2 : max (left - 1) (-1) = left - 1 := by omega
          have hm3 : (-1 : Int) ≤ left - 1 := by omega
          clear HS
          go_wp2_with fail
          refine (cut1_calls i hi HI2.out HB2.out).mono ?_
          rintro e w3 ⟨rfl, h3, h4⟩
          have H3 := Lib.hid h3
          have H4 := Lib.hid h4
          clear h3 h4
          go_wp2_with fail
          go_ret
          rw [HS2.out]
          exact ⟨rfl, by first | exact H3.out | (rw [HA.out]; exact H3.out), H4.out⟩
set_option maxRecDepth 100000 in
set_option maxHeartbeats 4000000 in
theorem step_sync (n : Int) (hI : IsD X w0 w g room left down A K V) (hB : Below w0.heap.size w0 w) (hl : -1 ≤ left ∧ left ≤ 9223372036854775807) (hn64 : -9223372036854775808 ≤ n ∧ n ≤ 9223372036854775807) :
    Calls Try.prog 46 #[.pointer (some ⟨g, 0, none⟩), .int .i64 n, .func (Fn.func 47) #[] #[], .func (Fn.func 84) #[] #[]] w fun e w' => e = .returned (.int .i64 (stepR left down A n thereRef syncAct).1) ∧ AtD X w0 w' g room (stepR left down A n thereRef syncAct) := by
  have HI := Lib.hid hI
  have HB := Lib.hid hB
  clear hI hB
  cases down with
  | true =>
    have HR : Hid (stepR left true A n thereRef syncAct = (11, left, true, A)) := Lib.hid (by unfold stepR; rw [if_pos rfl])
    rw [HR.out]
    go_enter Try.func46, Try.ntmps46
    go_wp2_with fail
    refine (down_calls HI.out).mono ?_
    rintro e w1 ⟨rfl, rfl⟩
    go_wp2_with fail
    go_ret
    exact ⟨rfl, ⟨_, _, HI.out⟩, HB.out⟩
  | false =>
    rcases (show (n < 0 ∨ 4 ≤ n) ∨ (0 ≤ n ∧ n < 4) by omega) with hn | ⟨hn0, hn4⟩
    · have HR : Hid (stepR left false A n thereRef syncAct = (1, left, false, A)) := Lib.hid (by unfold stepR; rw [if_neg (by decide), if_pos hn])
      rw [HR.out]
      rcases hn with hn | hn
      ·
        go_enter Try.func46, Try.ntmps46
        go_wp2_with fail
        refine (down_calls HI.out).mono ?_
        rintro e w1 ⟨rfl, rfl⟩
        go_wp2_with fail
        go_ret
        exact ⟨rfl, ⟨_, _, HI.out⟩, HB.out⟩
      ·
        go_enter Try.func46, Try.ntmps46
        go_wp2_with fail
        refine (down_calls HI.out).mono ?_
        rintro e w1 ⟨rfl, rfl⟩
        go_wp2_with fail
        go_ret
        exact ⟨rfl, ⟨_, _, HI.out⟩, HB.out⟩
    · obtain ⟨i, rfl⟩ : ∃ i : Nat, n = (i : Int) := ⟨n.toNat, by omega⟩
      have hi : i < 4 := by omega
      have hcp := HI.out.cp i hi
      have c1 := HI.out.c1
      have f1 := HI.out.f 1
      have c2 := HI.out.c2
      have f2 := HI.out.f 2
      have HS : Hid (stepR left false A (i : Int) thereRef syncAct = if thereRef (A i) ≠ 0 then (thereRef (A i), left, false, A) else if left = 0 then (11, left, true, A) else (0, max (left - 1) (-1), false, upd A i (syncAct (A i)))) := Lib.hid (by unfold stepR; rw [if_neg (by decide), if_neg (by omega), Int.toNat_natCast]; first | done | rfl)
      generalize hst : stepR left false A (i : Int) thereRef syncAct = st at *
      clear hst
      obtain ⟨hl0, hl1⟩ := hl
      have HCP := Lib.hid hcp
      clear hcp hn0
      generalize hpv : ptr (A i) (K i) = pv
      have cp : w.cell? ⟨g, 3 + i, none⟩ = some pv := by rw [← hpv]; exact HCP.out
      have HPV := Lib.hid hpv
      clear hpv HCP
      go_enter Try.func46, Try.ntmps46
      go_wp2_with fail
      refine (down_calls HI.out).mono ?_
      rintro e w1 ⟨rfl, rfl⟩
      go_wp2_with fail
      rw [← HPV.out]
      refine (there_calls (A i) (K i) _).mono ?_
      rintro e w2 ⟨rfl, rfl⟩
      rw [HPV.out]
      cases hA : A i with
      | none =>
        rw [hA] at HS
        have HA := Lib.hid hA
        clear hA
        have HS2 : Hid (st = (12, left, false, A)) := Lib.hid (by rw [HS.out]; first | rfl | (simp [layRef, thereRef]; done) | (simp [layRef, thereRef, layAct, cutAct, syncAct]))
        clear HS
        go_wp2_with fail
        go_ret
        rw [HS2.out]
        exact ⟨rfl, ⟨_, _, HI.out⟩, HB.out⟩
      | some x =>
        rw [hA] at HS
        have HA := Lib.hid hA
        clear hA
        obtain ⟨b, s⟩ := x
        rcases (show left = 0 ∨ left = -1 ∨ 1 ≤ left by omega) with h0 | h0 | h0
        · subst h0
          have HS2 : Hid (st = (11, 0, true, A)) := Lib.hid (by rw [HS.out]; first | rfl | (simp [layRef, thereRef]; done) | (simp [layRef, thereRef, layAct, cutAct, syncAct]))
          clear HS
          go_wp2_with fail
          go_ret
          rw [HS2.out]
          exact ⟨rfl, ⟨_, _, HI.out.setDown true⟩, HB.out.setCell HI.out.hg _⟩
        · subst h0
          have HS2 : Hid (st = (0, -1, false, upd A i (syncAct (A i)))) := Lib.hid (by rw [HS.out, HA.out]; first | rfl | (simp [layRef, thereRef]; done) | (simp [layRef, thereRef, layAct, cutAct, syncAct]))
          have HI2 := Lib.hid (HI.out.setLeft (-1))
          have HB2 := Lib.hid (HB.out.setCell HI.out.hg (p := ⟨g, 1, none⟩) (.int .i64 (-1)))
          clear HS
          go_wp2_with fail
          refine (sync1_calls i hi HA.out HI2.out HB2.out).mono ?_
          rintro e w3 ⟨rfl, h3, h4⟩
          have H3 := Lib.hid h3
          have H4 := Lib.hid h4
          clear h3 h4
          go_wp2_with fail
          go_ret
          rw [HS2.out]
          exact ⟨rfl, by first | exact H3.out | (rw [HA.out]; exact H3.out), H4.out⟩
        · have HS2 : Hid (st = (0, left - 1, false, upd A i (syncAct (A i)))) := Lib.hid (by rw [HS.out, HA.out, show max (left - 1) (-1) = left - 1 by omega]; rw [if_neg (by simp [layRef, thereRef]), if_neg (by omega)])
          have HI2 := Lib.hid (HI.out.setLeft (left - 1))
          have HB2 := Lib.hid (HB.out.setCell HI.out.hg (p := ⟨g, 1, none⟩) (.int .i64 (left - 1)))
          have hm1 : ¬ left = 0 := by omega
          have hm2 : max (left - 1) (-1) = left - 1 := by omega
          have hm3 : (-1 : Int) ≤ left - 1 := by omega
          clear HS
          go_wp2_with fail
          refine (sync1_calls i hi HA.out HI2.out HB2.out).mono ?_
          rintro e w3 ⟨rfl, h3, h4⟩
          have H3 := Lib.hid h3
          have H4 := Lib.hid h4
          clear h3 h4
          go_wp2_with fail
          go_ret
          rw [HS2.out]
          exact ⟨rfl, by first | exact H3.out | (rw [HA.out]; exact H3.out), H4.out⟩
end
end Go.Proofs.Ytccdmedhkbabpaa

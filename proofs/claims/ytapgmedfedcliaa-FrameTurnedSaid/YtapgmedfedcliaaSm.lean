/- frame.Sum is the sum. No condition. -/
import Derived.Test.YtapgmedfedcliaaSp
import Derived.Test.YtapgmedfedcliaaKp3
import Derived.Deep.LoopGhost
set_option linter.unusedVariables false
set_option linter.unusedSimpArgs false
namespace Go.Proofs.Ytapgmedfedcliaa
open Go.RowKit Go.Proofs.YtapgmedfedcliaaW.PrintWords

set_option maxRecDepth 100000 in
set_option maxHeartbeats 4000000 in
theorem sum_calls (s : ByteArray) (hs : s.size ≤ 140737488355328) (w : World) : Calls Try.prog 13 #[.string s] w fun e w' => e = .returned (.int .u32 (sumN s : Int)) ∧ Below w.heap.size w w' := by
  have hX0 : (w.alloc (.cells (tabC 0) 53)).heap[w.heap.size]? = some (.cells (tabC 0) 53 (0, 0)) := heap_alloc_new w _
  have HX0 := Lib.hid hX0
  have HB0 := Lib.hid (below_alloc' (Below.refl w.heap.size w) (.cells (tabC 0) 53))
  rw [tabC_zero] at HB0
  clear hX0
  go_enter Try.func13, Try.ntmps13
  go_wp2_with fail
  go_loopg [9] 17 (fun gk v9 wr => ∃ (i : Nat), i ≤ 16 ∧ v9 = .int .i64 (i : Int) ∧ Aside0 (i + gk = 17) ∧ Aside0 (wr.heap[w.heap.size]? = some (.cells (tabC i) 53 (0, 0)) ∧ Below w.heap.size w wr))
  case atStart => exact ⟨0, Nat.zero_le _, rfl, ⟨by omega⟩, ⟨HX0.out, HB0.out⟩⟩
  case round =>
    obtain ⟨i, hi, rfl, ⟨hg⟩, ⟨hX, hB⟩⟩ := hrel
    clear HX0 HB0
    have HX := Lib.hid hX
    have HB := Lib.hid hB
    have HG := Lib.hid hg
    clear hX hB hg
    rcases (show i < 16 ∨ i = 16 by omega) with hlt | hlt
    · have cX : wr.cell? ⟨w.heap.size, i, none⟩ = some (.int .u32 0) := by
        rw [blk_cell HX.out i, tabC_get _ _ hlt, if_neg (by omega)]; rfl
      have fX := blk_frozen HX.out i
      go_wp2_with fail
      cases gk with
      | zero => exact absurd HG.out (by omega)
      | succ g1 =>
      go_loopg [5, 14] 5 (fun gq v5 v14 wx => ∃ (j : Nat), j ≤ 4 ∧ v5 = .int .u32 ((shn j i : Nat) : Int) ∧ v14 = .int .i64 (j : Int) ∧ Aside0 (j + gq = 5) ∧ Drawn0 wr wx)
      case atStart => exact ⟨0, Nat.zero_le _, rfl, rfl, ⟨by omega⟩, by repeat (first | exact Drawn0.refl _ | apply Drawn0.step)⟩
      case round =>
        obtain ⟨j, hj, rfl, rfl, ⟨hgq⟩, ⟨m1, rfl⟩⟩ := hrel
        have HGQ := Lib.hid hgq
        clear hgq
        have hx := shn_lt j (x := i) (by omega)
        rcases (show j < 4 ∨ j = 4 by omega) with hj4 | hj4
        · have hsv := Lib.hid (sh_val _ hx)
          have HS : Hid (sh (shn j i) = shn (j + 1) i) := rfl
          generalize shn j i = x at *
          go_wp2
          go_roundg (gk - 1)
          case measure => have := HGQ.out; omega
          case rel => exact ⟨j + 1, by omega, by first | (rw [← HS.out, ← hsv.out]; done) | (rw [← HS.out, ← hsv.out]; go_num), by go_num, ⟨by have := HGQ.out; omega⟩, by repeat (first | exact Drawn0.refl _ | apply Drawn0.step)⟩
        · subst hj4
          have HY : Hid ((tabC i).setIfInBounds i (.int .u32 ((shn 4 i : Nat) : Int)) = tabC (i + 1)) := tabC_set i hlt
          generalize shn 4 i = y at *
          have HX1 : Hid (((wr.drewN m1).setCell ⟨w.heap.size, i, none⟩ (.int .u32 (y : Int))).heap[w.heap.size]? = some (.cells (tabC (i + 1)) 53 (0, 0)) ∧ Below w.heap.size w ((wr.drewN m1).setCell ⟨w.heap.size, i, none⟩ (.int .u32 (y : Int)))) := by
            refine ⟨?_, (pw_below_drewN HB.out m1).setCell (Nat.le_refl _) _⟩
            rw [← HY.out]
            have h : (wr.drewN m1).heap[w.heap.size]? = _ := HX.out
            simp only [World.setCell, Array.getElem?_modify, h]
            simp
          go_wp2
          go_roundg g1
          case measure => have := HG.out; omega
          case rel => exact ⟨i + 1, by omega, by go_num, ⟨by have := HG.out; omega⟩, ⟨HX1.out⟩⟩
    · subst hlt
      have kb := fun W => print_bytes (P := Try.prog) 9 31 5 Try.underlying9 Try.underlying31 Try.underlying5 s W
      have HBW := Lib.hid (bytes_below HB.out HB.out.size 5 s)
      have hne := HB.out.size
      have hlt : w.heap.size < wr.heap.size := (Array.getElem?_eq_some_iff.1 HX.out).1
      have HT := Lib.hid ((Lib.bytesWorld_at_old wr 5 s w.heap.size hlt).trans HX.out)
      have HC : Hid (∀ (i : Nat) (h : i < s.size), (Lib.bytesWorld wr 5 s).cell? ⟨wr.heap.size, i, none⟩ = some (.int .u8 (((natsOf s)[i]'(by rw [natsOf_length]; exact h) : Nat) : Int))) := by
        intro i h
        rw [Lib.bytesWorld_cell wr 5 s i h]
        have h' : i < s.data.toList.length := by rw [data_length]; exact h
        simp [natsOf, List.getD_eq_getElem?_getD, h]
      go_wp2_with fail
      generalize Lib.bytesWorld wr 5 s = wb at *
      generalize wr.heap.size = bb at *
      clear kb HX HB hne hlt hi HG
      go_loopg [6, 30] (s.size + 1) (fun gk v6 v30 wx => ∃ (i : Nat), i ≤ s.size ∧ v6 = .int .u32 ((sumS 4294967295 ((natsOf s).take i) : Nat) : Int) ∧ v30 = .int .i64 (i : Int) ∧ Aside0 (i + gk = s.size + 1) ∧ Drawn0 wb wx)
      case atStart => exact ⟨0, Nat.zero_le _, rfl, rfl, ⟨by omega⟩, by repeat (first | exact Drawn0.refl _ | apply Drawn0.step)⟩
      case round =>
        obtain ⟨i, hi, rfl, rfl, ⟨hg⟩, ⟨m1, rfl⟩⟩ := hrel
        have HG := Lib.hid hg
        clear hg
        have hlx := sumS_lt (x := 4294967295) (by decide) ((natsOf s).take i) (fun b hb => natsOf_lt s b (List.mem_of_mem_take hb))
        rcases (show i < s.size ∨ i = s.size by omega) with hlt | hlt
        · have hil : i < (natsOf s).length := by rw [natsOf_length]; exact hlt
          have cb : (wb.drewN m1).cell? ⟨bb, i, none⟩ = some (.int .u8 (((natsOf s)[i] : Nat) : Int)) := HC.out i hlt
          have hbl := natsOf_lt s _ (List.getElem_mem hil)
          have HS : Hid (sumS 4294967295 ((natsOf s).take (i + 1)) = byteStep (sumS 4294967295 ((natsOf s).take i)) (natsOf s)[i]) := by
            show sumS 4294967295 ((natsOf s).take (i + 1)) = _
            rw [List.take_succ_eq_append_getElem hil, sumS_snoc]
          generalize (natsOf s)[i] = b at *
          generalize sumS 4294967295 ((natsOf s).take i) = x at *
          have hx1 := xor_u32 x b hlx (by omega)
          have hl1 := xor_lt hlx (show b < 4294967296 by omega)
          have HE : Hid (byteStep x b = nib (nib (x ^^^ b))) := rfl
          generalize x ^^^ b = x1 at *
          have ha1 := and15_u32 x1 hl1
          have hj1 := Nat.mod_lt x1 (show 16 > 0 by decide)
          have c1 : (wb.drewN m1).cell? ⟨w.heap.size, x1 % 16, none⟩ = some (.int .u32 ((sh4 (x1 % 16) : Nat) : Int)) := by
            refine (blk_cell (w := wb) HT.out (x1 % 16)).trans ?_
            rw [tabC_get _ _ hj1, if_pos hj1]
          have hn1 := nib_val x1 _ hl1 rfl
          have hl2 := nib_lt hl1
          generalize sh4 (x1 % 16) = t1 at *
          generalize x1 % 16 = j1 at *
          generalize nib x1 = x2 at *
          have ha2 := and15_u32 x2 hl2
          have hj2 := Nat.mod_lt x2 (show 16 > 0 by decide)
          have c2 : (wb.drewN m1).cell? ⟨w.heap.size, x2 % 16, none⟩ = some (.int .u32 ((sh4 (x2 % 16) : Nat) : Int)) := by
            refine (blk_cell (w := wb) HT.out (x2 % 16)).trans ?_
            rw [tabC_get _ _ hj2, if_pos hj2]
          have hn2 := nib_val x2 _ hl2 rfl
          have hl3 := nib_lt hl2
          generalize sh4 (x2 % 16) = t2 at *
          generalize x2 % 16 = j2 at *
          generalize nib x2 = x3 at *
          go_wp2
          go_roundg (gk - 1)
          case measure => have := HG.out; omega
          case rel => exact ⟨i + 1, by omega, by rw [HS.out, HE.out], by go_num, ⟨by have := HG.out; omega⟩, by repeat (first | exact Drawn0.refl _ | apply Drawn0.step)⟩
        · subst hlt
          have HS : Hid (((natsOf s).take s.size) = natsOf s) := by
            show (natsOf s).take s.size = natsOf s
            rw [← natsOf_length, List.take_length]
          rw [HS.out] at hlx ⊢
          have hr : Go.bits .xor .u32 IntKind.u32.max ((sumS 4294967295 (natsOf s) : Nat) : Int) = (sumN s : Int) := by
            rw [sumN, Nat.xor_comm, ← xor_u32 4294967295 _ (by decide) hlx]
            rfl
          go_wp2
          go_ret
          exact ⟨rfl, pw_below_drewN HBW.out m1⟩
end Go.Proofs.Ytapgmedfedcliaa

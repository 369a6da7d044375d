/- The walk of FrameApart: two payloads that aren't the same have frames neither of which begins the other. Condition: the given size bound. -/
import Derived.Test.YtapgmedfedcliaaAx
import Derived.Deep.RegionHeld3
set_option linter.unusedVariables false
set_option linter.unusedSimpArgs false
namespace Go.Proofs.Ytapgmedfedcliaa
open Go.RowKit Go.Proofs.YtapgmedfedcliaaW.PrintWords PRd PFr

theorem apart_law (a b : ByteArray) (ha : a.size ≤ 16384) (hb : b.size ≤ 16384) (hne : a ≠ b) (n : Nat) (hn : n = min (frm a).size (frm b).size) : (frm a).extract 0 n ≠ (frm b).extract 0 n := by
  have key : ∀ p q : ByteArray, p.size ≤ 16384 → q.size ≤ 16384 → (frm p).size ≤ (frm q).size → (frm p).extract 0 (frm p).size = (frm q).extract 0 (frm p).size → p = q := by
    intro p q hp hq hl h
    refine frm_apart p q ((frm q).extract (frm p).size (frm q).size) hp hq ?_
    have e1 := extract_both (frm q) (frm p).size
    rw [← h] at e1
    have e2 : (frm p).extract 0 (frm p).size = frm p := by
      have := extract_left (frm p) ByteArray.empty _ rfl
      rwa [ByteArray.append_empty] at this
    rw [e2] at e1
    exact e1
  intro h
  rcases Nat.le_total (frm a).size (frm b).size with hl | hl
  · rw [Nat.min_eq_left hl] at hn
    subst hn
    exact hne (key a b ha hb hl h)
  · rw [Nat.min_eq_right hl] at hn
    subst hn
    exact hne (key b a hb ha hl h.symm).symm

set_option maxRecDepth 100000 in
set_option maxHeartbeats 4000000 in
theorem walk_FrameApart (a b : ByteArray) (ha : a.size ≤ 140737488351232) (hb : b.size ≤ 140737488351232) (w : World) :
    Calls Try.prog 5 #[.string a, .string b] w fun e w' => e = .returned (.bool true) ∧ Below w.heap.size w w' := by
  go_enter Try.func5, Try.ntmps5
  go_wp2_with fail
  refine (awake_calls _).mono ?_
  rintro e w1 ⟨rfl, hB⟩
  have HB1 := Lib.hid hB
  clear hB
  have hw : IntKind.i64.wrap ((a.size : Int) + (b.size : Int)) = ((a.size + b.size : Nat) : Int) := by rw [IntKind.wrap_i64]; omega
  obtain ⟨z, hz⟩ : ∃ z, z = a.size + b.size := ⟨_, rfl⟩
  rw [← hz] at hw
  rcases (show 5000 < z ∨ z ≤ 5000 by omega) with hl | hl
  · have HZ := Lib.hid hz
    clear hz
    go_wp2_with fail
    go_ret
    exact ⟨rfl, HB1.out⟩
  · have hwa : wrp a = (frm a, 0) := by unfold wrp; rw [if_neg (by omega)]
    have hwb : wrp b = (frm b, 0) := by unfold wrp; rw [if_neg (by omega)]
    have HL := Lib.hid (apart_law a b (by omega) (by omega))
    have hsa := frm_size a
    have hsb := frm_size b
    have hea := encB_size (n := (a.size : Int)) (by omega)
    have heb := encB_size (n := (b.size : Int)) (by omega)
    have hfa : (frm a).size ≤ 10000 := by omega
    have hfb : (frm b).size ≤ 10000 := by omega
    have HZ := Lib.hid hz
    clear hz hsa hsb hea heb
    have HWA := Lib.hid hwa
    have HWB := Lib.hid hwb
    clear hwa hwb
    go_wp2_with fail
    refine (wrap_calls a _).mono ?_
    rw [HWA.out]
    rintro e w2 ⟨rfl, hB⟩
    have HB2 := Lib.hid (below_step HB1.out hB)
    clear hB HB1
    go_wp2_with fail
    refine (wrap_calls b _).mono ?_
    rw [HWB.out]
    rintro e w3 ⟨rfl, hB⟩
    have HB3 := Lib.hid (below_step HB2.out hB)
    clear hB HB2
    by_cases hab : a = b
    · subst hab
      go_wp2_with fail
      go_ret
      exact ⟨by first | rfl | simp, HB3.out⟩
    · have c1 : (a.toList == b.toList) = false := beq_eq_false_iff_ne.mpr fun h => hab (toList_inj.1 h)
      have HL2 := Lib.hid (HL.out hab)
      clear HL hab
      generalize frm a = u at *
      generalize frm b = v at *
      obtain ⟨m, hm⟩ : ∃ m, m = min u.size v.size := ⟨_, rfl⟩
      have hmi : min (u.size : Int) (v.size : Int) = (m : Int) := by omega
      have m0 : (0 : Int) ≤ (m : Int) := by omega
      have m1 : (m : Int) ≤ (u.size : Int) := by omega
      have m2 : (m : Int) ≤ (v.size : Int) := by omega
      have c2 : ((u.extract 0 m).toList == (v.extract 0 m).toList) = false := beq_eq_false_iff_ne.mpr fun h => HL2.out m hm (toList_inj.1 h)
      have c3 : ((u.extract 0 m).toList != (v.extract 0 m).toList) = true := by rw [bne, c2]; rfl
      clear hm
      go_wp2_with fail
      go_region_held3 (fun w' => Below w.heap.size w w') (first | assumption | exact below_drew1 HB3.out | exact HB3.out | go_keep) (fail)
      all_goals go_wp2
      go_ret
      exact ⟨by first | rfl | (simp only [c2, c3]; done) | (simp [c2, c3]; done), below_drew1 HB3.out⟩
end Go.Proofs.Ytapgmedfedcliaa

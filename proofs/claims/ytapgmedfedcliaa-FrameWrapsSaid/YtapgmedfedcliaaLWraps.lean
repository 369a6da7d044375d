/- The walk of FrameWraps: a payload's frame is the document's, and is read as it; one too long is refused. Condition: the given size bound. -/
import Derived.Test.YtapgmedfedcliaaAx
import Derived.Test.YtapgmedfedcliaaRs
import Derived.Deep.RegionHeld3
set_option linter.unusedVariables false
set_option linter.unusedSimpArgs false
namespace Go.Proofs.Ytapgmedfedcliaa
open Go.RowKit Go.Proofs.YtapgmedfedcliaaW.PrintWords PRd PFr

set_option maxRecDepth 100000 in
set_option maxHeartbeats 4000000 in
theorem walk_FrameWraps (p b : ByteArray) (hp : p.size ≤ 140737488351232) (hb : b.size ≤ 140737488351232) (w : World) :
    Calls Try.prog 3 #[.string p, .string b] w fun e w' => e = .returned (.bool true) ∧ Below w.heap.size w w' := by
  go_enter Try.func3, Try.ntmps3
  go_wp2_with fail
  refine (awake_calls _).mono ?_
  rintro e w1 ⟨rfl, hB⟩
  have HB1 := Lib.hid hB
  clear hB
  rcases (show 40000 < p.size ∨ (p.size ≤ 40000 ∧ 16384 < p.size) ∨ p.size ≤ 16384 by omega) with hl | ⟨hl, hl2⟩ | hl
  · have hq : (p.extract 0 40000).size = 40000 := by rw [ByteArray.size_extract]; omega
    have c0 : (40000 : Int) ≤ (p.size : Int) := by omega
    have hwp : wrp (p.extract 0 40000) = (⟨#[]⟩, 3) := by unfold wrp; rw [if_pos (by omega)]
    have HWP := Lib.hid hwp
    clear hwp
    go_wp2_with fail
    generalize p.extract 0 40000 = q at *
    refine (wrap_calls q _).mono ?_
    rw [HWP.out]
    rintro e w2 ⟨rfl, hB⟩
    have HB2 := Lib.hid (below_step HB1.out hB)
    clear hB HB1
    go_wp2_with fail
    refine (refwrap_calls q _).mono ?_
    rw [HWP.out]
    rintro e w3 ⟨rfl, hB⟩
    have HB3 := Lib.hid (below_step HB2.out hB)
    clear hB HB2
    have c1 : (16384 : Int) < (q.size : Int) := by omega
    go_wp2_with fail
    go_ret
    exact ⟨by first | rfl | simp [hq], HB3.out⟩
  · have hwp : wrp p = (⟨#[]⟩, 3) := by unfold wrp; rw [if_pos (by omega)]
    have HWP := Lib.hid hwp
    clear hwp
    go_wp2_with fail
    refine (wrap_calls p _).mono ?_
    rw [HWP.out]
    rintro e w2 ⟨rfl, hB⟩
    have HB2 := Lib.hid (below_step HB1.out hB)
    clear hB HB1
    go_wp2_with fail
    refine (refwrap_calls p _).mono ?_
    rw [HWP.out]
    rintro e w3 ⟨rfl, hB⟩
    have HB3 := Lib.hid (below_step HB2.out hB)
    clear hB HB2
    have c1 : (16384 : Int) < (p.size : Int) := by omega
    go_wp2_with fail
    go_ret
    exact ⟨by first | rfl | simp, HB3.out⟩
  · have hwp : wrp p = (frm p, 0) := by unfold wrp; rw [if_neg (by omega)]
    have HWP := Lib.hid hwp
    clear hwp
    have hsz := frm_size p
    have hes := encB_size (n := (p.size : Int)) (by omega)
    have hfs : (frm p).size ≤ 20000 := by omega
    have hl4 : p.size ≤ 40000 := by omega
    have HL := Lib.hid hl
    have HFS := Lib.hid hfs
    clear hsz hes hl hfs
    go_wp2_with fail
    refine (wrap_calls p _).mono ?_
    rw [HWP.out]
    rintro e w2 ⟨rfl, hB⟩
    have HB2 := Lib.hid (below_step HB1.out hB)
    clear hB HB1
    go_wp2_with fail
    refine (refwrap_calls p _).mono ?_
    rw [HWP.out]
    rintro e w3 ⟨rfl, hB⟩
    have HB3 := Lib.hid (below_step HB2.out hB)
    clear hB HB2
    have HN := Lib.hid (nxt_frm p b HL.out)
    generalize frm p = s at *
    have hfs := HFS.out
    have hss : (s ++ b).size ≤ 281474976710656 := by rw [ByteArray.size_append]; omega
    go_wp2_with fail
    refine (next_calls (s ++ b) hss _).mono ?_
    rw [nxtV, HN.out]
    rintro e w4 ⟨rfl, hB⟩
    have HB4 := Lib.hid (below_step HB3.out hB)
    clear hB HB3
    go_wp2_with fail
    go_ret
    exact ⟨by first | rfl | simp, HB4.out⟩
end Go.Proofs.Ytapgmedfedcliaa

/- The look ahead of each of pack's laws (awake) answers true. No condition. -/
import Derived.Test.YtbmodiomoogffaaKp
set_option linter.unusedVariables false
set_option linter.unusedSimpArgs false
namespace Go.Proofs.Ytbmodiomoogffaa
open Go.RowKit Go.Proofs.YtbmodiomoogffaaW.PrintWords PRd

set_option maxHeartbeats 4000000 in
theorem awake_calls (w0 w : World) (hB : Below w0.heap.size w0 w) : Calls Try.prog 9 #[] w fun e w' => e = .returned (.bool true) ∧ Below w0.heap.size w0 w' := by
  have e1 := Lib.hid (show rdNum ⟨#[249, 1, 0, 2, 97, 98]⟩ 0 300 = (256, ⟨#[2, 97, 98]⟩, 0) by decide +kernel)
  have e2 := Lib.hid (show rdText ⟨#[2, 97, 98]⟩ 0 1 5 = (⟨#[97, 98]⟩, ByteArray.empty, 0) by decide +kernel)
  have e3 := Lib.hid (show (ByteArray.empty ++ encB 256 ++ encB (ByteArray.size ⟨#[97, 98]⟩) ++ ⟨#[97, 98]⟩) = ⟨#[249, 1, 0, 2, 97, 98]⟩ by decide +kernel)
  have HB := Lib.hid hB
  have HW1 := Lib.hid (IsS27.made w0 w hB.size)
  have HB1 := Lib.hid (below_alloc' hB (.cells #[.slice none 0 0] 27))
  clear hB
  go_enter Try.func9, Try.ntmps9
  go_wp2_with fail
  generalize w.heap.size = g at *
  refine (wnum w0 _ g _ 256 (by decide) (by decide) HW1.out HB1.out (by decide)).mono ?_
  rintro e w2 ⟨rfl, hW, hB, hk⟩
  have HW2 := Lib.hid hW
  have HB2 := Lib.hid hB
  clear hW hB hk HW1 HB1
  go_wp2_with fail
  refine (wtext w0 _ g _ _ HW2.out HB2.out (by decide +kernel)).mono ?_
  rintro e w3 ⟨rfl, hW, hB, hk⟩
  rw [e3.out] at hW
  have HW3 := Lib.hid hW
  have HB3 := Lib.hid hB
  clear hW hB hk HW2 HB2
  go_wp2_with fail
  refine (wbytes w0 _ g _ HW3.out HB3.out).mono ?_
  rintro e w4 ⟨rfl, hW, hB, hk⟩
  have HW4 := Lib.hid hW
  have HB4 := Lib.hid hB
  clear hW hB hk HW3 HB3
  go_wp2_with fail
  refine (rnew _ HB4.out).mono ?_
  rintro e w5 ⟨r, rfl, hR, hB, hb, hr⟩
  have HR5 := Lib.hid hR
  have HB5 := Lib.hid hB
  have HW5 := Lib.hid (HW4.out.below hb)
  clear hR hB hb HW4 HB4
  go_wp2_with fail
  refine (rnumber w0 _ r _ 0 300 (by decide) (by decide) HR5.out HB5.out).mono ?_
  rw [e1.out]
  rintro e w6 ⟨rfl, hR, hB, hk⟩
  have HR6 := Lib.hid hR
  have HB6 := Lib.hid hB
  have HW6 := Lib.hid (wr_keepR hk HR5.out HW5.out)
  clear hR hB hk HW5 HB5 HR5
  go_wp2_with fail
  refine (rtext 1 5 HR6.out HB6.out (by decide) (by decide) (by decide)).mono ?_
  rw [e2.out]
  rintro e w7 ⟨rfl, hR, hB, hk⟩
  have HR7 := Lib.hid hR
  have HB7 := Lib.hid hB
  have HW7 := Lib.hid (wr_keepR hk HR6.out HW6.out)
  clear hR hB hk HW6 HB6 HR6
  go_wp2_with fail
  refine (wbytes w0 _ g _ HW7.out HB7.out).mono ?_
  rintro e w8 ⟨rfl, hW, hB, hk⟩
  have HB8 := Lib.hid hB
  have HR8 := Lib.hid (rd_keepW hk HW7.out HR7.out)
  clear hW hB hk HW7 HB7 HR7
  go_wp2_with fail
  refine (rend HR8.out HB8.out).mono ?_
  rintro e w9 ⟨rfl, hR, hB, hk⟩
  have HB9 := Lib.hid hB
  clear hR hB hk
  go_wp2_with fail
  go_ret
  exact ⟨rfl, HB9.out⟩
end Go.Proofs.Ytbmodiomoogffaa

/- The look ahead of each of place's laws (awake) answers true. No condition. -/
import Derived.Test.YtbodaohbmekekaaShard
set_option linter.unusedVariables false
set_option linter.unusedSimpArgs false
namespace Go.Proofs.Ytbodaohbmekekaa
open Go.RowKit Go.Proofs.YtbodaohbmekekaaW.PrintWords

theorem rep99 : Fl.Rep 4636666922610458624 99 := by
  have := Fl.rep_nearest 99 (by decide)
  have e : FloatKind.f64.nearest 99 = 4636666922610458624 := by decide +kernel
  rwa [e] at this
theorem rep98 : Fl.Rep 4636596553866280960 98 := by
  have := Fl.rep_nearest 98 (by decide)
  have e : FloatKind.f64.nearest 98 = 4636596553866280960 := by decide +kernel
  rwa [e] at this

set_option maxHeartbeats 1000000 in
theorem awake_calls (w : World) : Calls Try.prog 8 #[] w fun e w' => e = .returned (.bool true) ∧ Drawn0 w w' := by
  have k1 := Lib.hid (fun w => shard_calls ⟨#[97]⟩ 4 w (by decide))
  have k2 := Lib.hid (fun w => walk_calls ⟨#[97, 98]⟩ w (by decide))
  have e1 := Lib.hid (show sv ⟨#[97]⟩ 4 = 2 by decide)
  have e2 := Lib.hid (show se ⟨#[97]⟩ 4 = 0 by decide)
  have e3 := Lib.hid (show wk ⟨#[97, 98]⟩ (min (ByteArray.size ⟨#[97, 98]⟩) 32) = (99, 98) by decide)
  go_enter Try.func8, Try.ntmps8
  go_wp2_with (first | (go_at_call 11; refine (k1.out _).mono ?_; rw [e1.out, e2.out]; rintro e w' ⟨rfl, ⟨m, rfl⟩⟩) | (go_at_call 9; refine (k2.out _).mono ?_; rw [e3.out]; rintro e w' ⟨⟨re, im, rfl, hr, hi⟩, ⟨m2, rfl⟩⟩; have h1 := Fl.rep_eq hr rep99; have h2 := Fl.rep_eq hi rep98; clear hr hi))
  go_ret
  exact ⟨rfl, by repeat (first | exact Drawn0.refl _ | apply Drawn0.step)⟩
end Go.Proofs.Ytbodaohbmekekaa

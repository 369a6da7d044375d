/- The drum's functions, one layer up. Conditions: those that each theorem names. -/
import Derived.Test.YtahfcnbdladfbaaDc
set_option linter.unusedVariables false
set_option linter.unusedSimpArgs false
namespace Go.Proofs.Ytahfcnbdladfbaa
open Go.RowKit Go.Proofs.YtahfcnbdladfbaaW.PrintWords

section
variable {X : Nat → Obj → Prop} {w0 w : World} {g : Nat} {room left : Int} {down : Bool} {A : Nat → Ar} {K : Nat → Nat} {V : Nat → Value}
theorem lay_calls (n : Int) (hI : IsD X w0 w g room left down A K V) (hB : Below w0.heap.size w0 w) (hl : -1 ≤ left ∧ left ≤ 9223372036854775807) (hn64 : -9223372036854775808 ≤ n ∧ n ≤ 9223372036854775807) :
    Calls Try.prog 9 #[.pointer (some ⟨g, 0, none⟩), .int .i64 n] w fun e w' => e = .returned (.int .i64 (stepR left down A n layRef layAct).1) ∧ AtD X w0 w' g room (stepR left down A n layRef layAct) := by
  have HS := Lib.hid (step_lay n hI hB hl hn64)
  clear hI hB
  go_enter Try.func9, Try.ntmps9
  go_wp2_with fail
  refine HS.out.mono ?_
  rintro e w1 ⟨rfl, h⟩
  have H := Lib.hid h
  clear h
  go_wp2
  go_ret
  exact ⟨rfl, H.out⟩
theorem cut_calls (n : Int) (hI : IsD X w0 w g room left down A K V) (hB : Below w0.heap.size w0 w) (hl : -1 ≤ left ∧ left ≤ 9223372036854775807) (hn64 : -9223372036854775808 ≤ n ∧ n ≤ 9223372036854775807) :
    Calls Try.prog 37 #[.pointer (some ⟨g, 0, none⟩), .int .i64 n] w fun e w' => e = .returned (.int .i64 (stepR left down A n thereRef cutAct).1) ∧ AtD X w0 w' g room (stepR left down A n thereRef cutAct) := by
  have HS := Lib.hid (step_cut n hI hB hl hn64)
  clear hI hB
  go_enter Try.func37, Try.ntmps37
  go_wp2_with fail
  refine HS.out.mono ?_
  rintro e w1 ⟨rfl, h⟩
  have H := Lib.hid h
  clear h
  go_wp2
  go_ret
  exact ⟨rfl, H.out⟩
theorem sync_calls (n : Int) (hI : IsD X w0 w g room left down A K V) (hB : Below w0.heap.size w0 w) (hl : -1 ≤ left ∧ left ≤ 9223372036854775807) (hn64 : -9223372036854775808 ≤ n ∧ n ≤ 9223372036854775807) :
    Calls Try.prog 13 #[.pointer (some ⟨g, 0, none⟩), .int .i64 n] w fun e w' => e = .returned (.int .i64 (stepR left down A n thereRef syncAct).1) ∧ AtD X w0 w' g room (stepR left down A n thereRef syncAct) := by
  have HS := Lib.hid (step_sync n hI hB hl hn64)
  clear hI hB
  go_enter Try.func13, Try.ntmps13
  go_wp2_with fail
  refine HS.out.mono ?_
  rintro e w1 ⟨rfl, h⟩
  have H := Lib.hid h
  clear h
  go_wp2
  go_ret
  exact ⟨rfl, H.out⟩
theorem new_calls (room : Int) (hr : -9223372036854775808 ≤ room ∧ room ≤ 9223372036854775807) (w0 w : World) (hB : Below w0.heap.size w0 w) :
    Calls Try.prog 8 #[.int .i64 room] w fun e w' => Below w0.heap.size w0 w' ∧ if room < 0 ∨ 1048576 < room then e = .returned (.tuple #[.pointer none, .int .i64 1]) else ∃ g, e = .returned (.tuple #[.pointer (some ⟨g, 0, none⟩), .int .i64 0]) ∧ ∃ K V, IsD NoX w0 w' g room (-1) false (fun _ => none) K V := by
  have HB := Lib.hid hB
  clear hB
  rcases (show room < 0 ∨ (0 ≤ room ∧ 1048576 < room) ∨ (0 ≤ room ∧ room ≤ 1048576) by omega) with h | ⟨h0, h⟩ | ⟨h0, h⟩
  · have HR := Lib.hid (show (room < 0 ∨ 1048576 < room) from .inl h)
    go_enter Try.func8, Try.ntmps8
    go_wp2_with fail
    go_ret2
    exact ⟨HB.out, rfl⟩
  · have HR := Lib.hid (show (room < 0 ∨ 1048576 < room) from .inr h)
    go_enter Try.func8, Try.ntmps8
    go_wp2_with fail
    go_ret2
    exact ⟨HB.out, rfl⟩
  · have HR := Lib.hid (show ¬ (room < 0 ∨ 1048576 < room) by omega)
    go_enter Try.func8, Try.ntmps8
    go_wp2_with fail
    go_ret2
    refine ⟨below_alloc' HB.out _, ?_⟩
    skip
    refine ⟨w.heap.size, rfl, fun _ => 0, fun _ => .slice none 0 0, heap_alloc_new w _, HB.out.size, ?_, ?_, fun k o h => h.elim⟩
    · intro i _ b s e; cases e
    · intro i j _ _ _ e; cases e
def sz (a : Ar) : Nat := match a with
  | none => 0
  | some x => x.1.size
/-- How many bytes the first i areas have. -/
def usedTo (A : Nat → Ar) : Nat → Nat
  | 0 => 0
  | i + 1 => usedTo A i + sz (A i)
set_option maxRecDepth 100000 in
set_option maxHeartbeats 4000000 in
theorem used_calls (hI : IsD X w0 w g room left down A K V) (hB : Below w0.heap.size w0 w) (hu : usedTo A 4 ≤ 9223372036854775807) :
    Calls Try.prog 14 #[.pointer (some ⟨g, 0, none⟩)] w fun e w' => e = .returned (.int .i64 (usedTo A 4 : Int)) ∧ Drawn0 w w' := by
  have c3 := hI.cp 0 (by decide)
  have c4 := hI.cp 1 (by decide)
  have c5 := hI.cp 2 (by decide)
  have c6 := hI.cp 3 (by decide)
  have HI := Lib.hid hI
  have HP : Hid (∀ i, i < 4 → (A i = none ∧ ptr (A i) (K i) = .pointer none ∧ sz (A i) = 0) ∨ (ptr (A i) (K i) = .pointer (some ⟨K i, 0, none⟩) ∧ ∃ (R : Option Addr) (c : Nat), ∀ m, (w.drewN m).cell? ⟨K i, 0, none⟩ = some (.slice R (sz (A i)) c))) := Lib.hid (by
    intro i hi
    cases hA : A i with
    | none => exact .inl ⟨rfl, rfl, rfl⟩
    | some x =>
      obtain ⟨b, s⟩ := x
      obtain ⟨h1, h2, h3⟩ := hI.ha i hi b s hA
      obtain ⟨R, c, hv⟩ := own_slice h3
      refine .inr ⟨rfl, R, c, fun m => ?_⟩
      show w.cell? _ = _
      rw [(blk_cell h1 0).trans rfl, hv]
      rfl)
  clear hI hB
  have hle : ∀ n, n < 4 → usedTo A n + sz (A n) ≤ usedTo A 4 := by
    intro n hn
    rcases (show n = 0 ∨ n = 1 ∨ n = 2 ∨ n = 3 by omega) with rfl | rfl | rfl | rfl <;> simp only [usedTo] <;> omega
  have HU := Lib.hid hu
  have HLE := Lib.hid hle
  clear hu hle
  generalize hp0 : ptr (A 0) (K 0) = p0 at *
  generalize hp1 : ptr (A 1) (K 1) = p1 at *
  generalize hp2 : ptr (A 2) (K 2) = p2 at *
  generalize hp3 : ptr (A 3) (K 3) = p3 at *
  have HP0 := Lib.hid hp0
  have HP1 := Lib.hid hp1
  have HP2 := Lib.hid hp2
  have HP3 := Lib.hid hp3
  clear hp0 hp1 hp2 hp3
  have i0 : ∀ w, (Instr.index 58 (.agg #[p0, p1, p2, p3]) (.int .i64 0)).run Try.prog w = .ok p0 w := fun _ => by kernel_rfl
  have i1 : ∀ w, (Instr.index 58 (.agg #[p0, p1, p2, p3]) (.int .i64 1)).run Try.prog w = .ok p1 w := fun _ => by kernel_rfl
  have i2 : ∀ w, (Instr.index 58 (.agg #[p0, p1, p2, p3]) (.int .i64 2)).run Try.prog w = .ok p2 w := fun _ => by kernel_rfl
  have i3 : ∀ w, (Instr.index 58 (.agg #[p0, p1, p2, p3]) (.int .i64 3)).run Try.prog w = .ok p3 w := fun _ => by kernel_rfl
  go_enter Try.func14, Try.ntmps14
  go_wp2_with fail
  go_loopg [3, 12] 5 (fun gk v3 v12 wx => ∃ (i : Nat), i ≤ 4 ∧ v3 = .int .i64 (usedTo A i : Int) ∧ v12 = .int .i64 (i : Int) ∧ Aside0 (i + gk = 5) ∧ Drawn0 w wx)
  case atStart => exact ⟨0, by decide, rfl, rfl, ⟨by omega⟩, by repeat (first | exact Drawn0.refl _ | apply Drawn0.step)⟩
  case round =>
    obtain ⟨i, hi, rfl, rfl, ⟨hg⟩, ⟨m1, rfl⟩⟩ := hrel
    have HG := Lib.hid hg
    clear hg c3 c4 c5 c6
    rcases (show i = 0 ∨ i = 1 ∨ i = 2 ∨ i = 3 ∨ i = 4 by omega) with rfl | rfl | rfl | rfl | rfl
    · have hle := HLE.out 0 (by decide)
      have HS : Hid (usedTo A 1 = usedTo A 0 + sz (A 0)) := rfl
      have hu := HU.out
      generalize usedTo A 0 = s0 at *
      rcases HP.out 0 (by decide) with ⟨_, hq, hz⟩ | ⟨hq, R, c, hc⟩
      · obtain rfl : p0 = .pointer none := HP0.out.symm.trans hq
        have HZ := Lib.hid hz
        clear hq hz hle hu
        go_wp2
        go_roundg (gk - 1)
        case measure => have := HG.out; omega
        case rel => exact ⟨1, by decide, by rw [HS.out, HZ.out]; rfl, by go_num, ⟨by have := HG.out; omega⟩, by repeat (first | exact Drawn0.refl _ | apply Drawn0.step)⟩
      · obtain rfl : p0 = .pointer (some ⟨K 0, 0, none⟩) := HP0.out.symm.trans hq
        have hc1 := hc m1
        have hw : IntKind.i64.wrap ((s0 : Int) + (sz (A 0) : Int)) = ((s0 + sz (A 0) : Nat) : Int) := by rw [IntKind.wrap_i64]; omega
        clear hq hc
        generalize sz (A 0) = z at *
        go_wp2
        go_roundg (gk - 1)
        case measure => have := HG.out; omega
        case rel => exact ⟨1, by decide, by rw [HS.out]; go_num, by go_num, ⟨by have := HG.out; omega⟩, by repeat (first | exact Drawn0.refl _ | apply Drawn0.step)⟩
    · have hle := HLE.out 1 (by decide)
      have HS : Hid (usedTo A 2 = usedTo A 1 + sz (A 1)) := rfl
      have hu := HU.out
      generalize usedTo A 1 = s0 at *
      rcases HP.out 1 (by decide) with ⟨_, hq, hz⟩ | ⟨hq, R, c, hc⟩
      · obtain rfl : p1 = .pointer none := HP1.out.symm.trans hq
        have HZ := Lib.hid hz
        clear hq hz hle hu
        go_wp2
        go_roundg (gk - 1)
        case measure => have := HG.out; omega
        case rel => exact ⟨2, by decide, by rw [HS.out, HZ.out]; rfl, by go_num, ⟨by have := HG.out; omega⟩, by repeat (first | exact Drawn0.refl _ | apply Drawn0.step)⟩
      · obtain rfl : p1 = .pointer (some ⟨K 1, 0, none⟩) := HP1.out.symm.trans hq
        have hc1 := hc m1
        have hw : IntKind.i64.wrap ((s0 : Int) + (sz (A 1) : Int)) = ((s0 + sz (A 1) : Nat) : Int) := by rw [IntKind.wrap_i64]; omega
        clear hq hc
        generalize sz (A 1) = z at *
        go_wp2
        go_roundg (gk - 1)
        case measure => have := HG.out; omega
        case rel => exact ⟨2, by decide, by rw [HS.out]; go_num, by go_num, ⟨by have := HG.out; omega⟩, by repeat (first | exact Drawn0.refl _ | apply Drawn0.step)⟩
    · have hle := HLE.out 2 (by decide)
      have HS : Hid (usedTo A 3 = usedTo A 2 + sz (A 2)) := rfl
      have hu := HU.out
      generalize usedTo A 2 = s0 at *
      rcases HP.out 2 (by decide) with ⟨_, hq, hz⟩ | ⟨hq, R, c, hc⟩
      · obtain rfl : p2 = .pointer none := HP2.out.symm.trans hq
        have HZ := Lib.hid hz
        clear hq hz hle hu
        go_wp2
        go_roundg (gk - 1)
        case measure => have := HG.out; omega
        case rel => exact ⟨3, by decide, by rw [HS.out, HZ.out]; rfl, by go_num, ⟨by have := HG.out; omega⟩, by repeat (first | exact Drawn0.refl _ | apply Drawn0.step)⟩
      · obtain rfl : p2 = .pointer (some ⟨K 2, 0, none⟩) := HP2.out.symm.trans hq
        have hc1 := hc m1
        have hw : IntKind.i64.wrap ((s0 : Int) + (sz (A 2) : Int)) = ((s0 + sz (A 2) : Nat) : Int) := by rw [IntKind.wrap_i64]; omega
        clear hq hc
        generalize sz (A 2) = z at *
        go_wp2
        go_roundg (gk - 1)
        case measure => have := HG.out; omega
        case rel => exact ⟨3, by decide, by rw [HS.out]; go_num, by go_num, ⟨by have := HG.out; omega⟩, by repeat (first | exact Drawn0.refl _ | apply Drawn0.step)⟩
    · have hle := HLE.out 3 (by decide)
      have HS : Hid (usedTo A 4 = usedTo A 3 + sz (A 3)) := rfl
      have hu := HU.out
      generalize usedTo A 3 = s0 at *
      rcases HP.out 3 (by decide) with ⟨_, hq, hz⟩ | ⟨hq, R, c, hc⟩
      · obtain rfl : p3 = .pointer none := HP3.out.symm.trans hq
        have HZ := Lib.hid hz
        clear hq hz hle hu
        go_wp2
        go_roundg (gk - 1)
        case measure => have := HG.out; omega
        case rel => exact ⟨4, by decide, by rw [HS.out, HZ.out]; rfl, by go_num, ⟨by have := HG.out; omega⟩, by repeat (first | exact Drawn0.refl _ | apply Drawn0.step)⟩
      · obtain rfl : p3 = .pointer (some ⟨K 3, 0, none⟩) := HP3.out.symm.trans hq
        have hc1 := hc m1
        have hw : IntKind.i64.wrap ((s0 : Int) + (sz (A 3) : Int)) = ((s0 + sz (A 3) : Nat) : Int) := by rw [IntKind.wrap_i64]; omega
        clear hq hc
        generalize sz (A 3) = z at *
        go_wp2
        go_roundg (gk - 1)
        case measure => have := HG.out; omega
        case rel => exact ⟨4, by decide, by rw [HS.out]; go_num, by go_num, ⟨by have := HG.out; omega⟩, by repeat (first | exact Drawn0.refl _ | apply Drawn0.step)⟩
    · go_wp2
      go_ret
      exact ⟨rfl, ⟨m1, rfl⟩⟩
end
end Go.Proofs.Ytahfcnbdladfbaa

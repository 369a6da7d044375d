/- PlaceSplits: its argument, of whatever structs, opened into the printed structures. -/
import Derived.Test.YtbodaohbmekekaaPPlaceSplitsx3
import Derived.Test.YtbodaohbmekekaaOp
set_option linter.unusedVariables false
set_option linter.unusedSimpArgs false
namespace Go.Proofs.Ytbodaohbmekekaa.PPlaceSplits
open Go.RowKit Go.Deep Go.Proofs.YtbodaohbmekekaaW.PrintWords
def Q44 {H : Type} (a : S44) (d : DataW H) : Prop := d = .agg [.lit (.string a.f0.data.toList), .lit (.string a.f1.data.toList), .lit (.bool a.f2)] ∧ a.f0.size ≤ maxLen ∧ a.f1.size ≤ maxLen
theorem open_S44 {H : Type} {enc : TypeId × Value → H} {W : World} {base : Nat} {spare : Nat → Bool} {held : Bool} (n : Nat) (cs : List Value) (x : DataW H × List MemPlace) (h : DataW.trod enc Try.prog W base spare held n 44 cs = some x) : ∃ a : S44, k44.K W a cs ∧ Q44 a x.1 := by
  have hc0 : Try.prog.cellsOf 44 = 3 := by kernel_rfl
  obtain ⟨xs0, n0, _, hx0, hl0, hn0, hf0⟩ := DataW.trod_struct Try.underlying44 h
  rw [hc0] at hl0
  obtain ⟨c0_0, c0_1, c0_2, rfl⟩ : ∃ c0_0 c0_1 c0_2, cs = [c0_0, c0_1, c0_2] := by
    match cs, hl0 with
    | [c0_0, c0_1, c0_2], _ => exact ⟨_, _, _, rfl⟩
  obtain ⟨x0_0, x0_1, x0_2, rfl⟩ : ∃ x0_0 x0_1 x0_2, xs0 = [x0_0, x0_1, x0_2] := by
    match xs0, hn0 with
    | [x0_0, x0_1, x0_2], _ => exact ⟨_, _, _, rfl⟩
  have h0_0 : DataW.trod enc Try.prog W base spare held n0 9 (List.take (Try.prog.cellsOf 9) (List.drop 0 [c0_0, c0_1, c0_2])) = [x0_0, x0_1, x0_2][0]? := hf0 0 _ rfl
  rw [show Try.prog.cellsOf 9 = 1 from by kernel_rfl] at h0_0
  replace h0_0 : DataW.trod enc Try.prog W base spare held n0 9 [c0_0] = some x0_0 := h0_0
  have h0_1 : DataW.trod enc Try.prog W base spare held n0 9 (List.take (Try.prog.cellsOf 9) (List.drop 1 [c0_0, c0_1, c0_2])) = [x0_0, x0_1, x0_2][1]? := hf0 1 _ rfl
  rw [show Try.prog.cellsOf 9 = 1 from by kernel_rfl] at h0_1
  replace h0_1 : DataW.trod enc Try.prog W base spare held n0 9 [c0_1] = some x0_1 := h0_1
  have h0_2 : DataW.trod enc Try.prog W base spare held n0 4 (List.take (Try.prog.cellsOf 4) (List.drop 2 [c0_0, c0_1, c0_2])) = [x0_0, x0_1, x0_2][2]? := hf0 2 _ rfl
  rw [show Try.prog.cellsOf 4 = 1 from by kernel_rfl] at h0_2
  replace h0_2 : DataW.trod enc Try.prog W base spare held n0 4 [c0_2] = some x0_2 := h0_2
  obtain ⟨a0, q0, z0, w0⟩ := DataW.trod_string Try.underlying9 h0_0
  obtain rfl := List.head_eq_of_cons_eq q0
  subst z0
  obtain ⟨a1, q1, z1, w1⟩ := DataW.trod_string Try.underlying9 h0_1
  obtain rfl := List.head_eq_of_cons_eq q1
  subst z1
  obtain ⟨a2, q2, z2⟩ := DataW.trod_bool Try.underlying4 h0_2
  obtain rfl := List.head_eq_of_cons_eq q2
  subst z2
  refine ⟨⟨a0, a1, a2⟩, k44_mk W ⟨a0, a1, a2⟩, ?_⟩
  subst hx0
  exact ⟨rfl, w0, w1⟩
end Go.Proofs.Ytbodaohbmekekaa.PPlaceSplits

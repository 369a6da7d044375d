/- PackWrites' argument, a list of structs, opened. Conditions: those that each theorem names. -/
import Derived.Test.YtbmodiomoogffaaPPackWritesx0
import Derived.Test.YtbmodiomoogffaaOp
set_option linter.unusedVariables false
set_option linter.unusedSimpArgs false
namespace Go.Proofs.Ytbmodiomoogffaa.PPackWrites
open Go.RowKit Go.Deep Go.Proofs.YtbmodiomoogffaaW.PrintWords
def Q53 {H : Type} (a : S53) (d : DataW H) : Prop := d = .agg [.lit (.int .i64 a.f0), .lit (.int .u64 a.f1), .lit (.string a.f2.data.toList), .agg [.lit (.int .u64 a.f3.f0), .lit (.int .u32 a.f3.f1)]] ∧ (Lit.int .i64 a.f0).wf = true ∧ (Lit.int .u64 a.f1).wf = true ∧ a.f2.size ≤ maxLen ∧ (Lit.int .u64 a.f3.f0).wf = true ∧ (Lit.int .u32 a.f3.f1).wf = true
theorem open_S53 {H : Type} {enc : TypeId × Value → H} {W : World} {base : Nat} {spare : Nat → Bool} {held : Bool} (n : Nat) (cs : List Value) (x : DataW H × List MemPlace) (h : DataW.trod enc Try.prog W base spare held n 53 cs = some x) : ∃ a : S53, k53.K W a cs ∧ Q53 a x.1 := by
  have hc0 : Try.prog.cellsOf 53 = 5 := by kernel_rfl
  obtain ⟨xs0, n0, _, hx0, hl0, hn0, hf0⟩ := DataW.trod_struct Try.underlying53 h
  rw [hc0] at hl0
  obtain ⟨c0_0, c0_1, c0_2, c0_3, c0_4, rfl⟩ : ∃ c0_0 c0_1 c0_2 c0_3 c0_4, cs = [c0_0, c0_1, c0_2, c0_3, c0_4] := by
    match cs, hl0 with
    | [c0_0, c0_1, c0_2, c0_3, c0_4], _ => exact ⟨_, _, _, _, _, rfl⟩
  obtain ⟨x0_0, x0_1, x0_2, x0_3, rfl⟩ : ∃ x0_0 x0_1 x0_2 x0_3, xs0 = [x0_0, x0_1, x0_2, x0_3] := by
    match xs0, hn0 with
    | [x0_0, x0_1, x0_2, x0_3], _ => exact ⟨_, _, _, _, rfl⟩
  have h0_0 : DataW.trod enc Try.prog W base spare held n0 3 (List.take (Try.prog.cellsOf 3) (List.drop 0 [c0_0, c0_1, c0_2, c0_3, c0_4])) = [x0_0, x0_1, x0_2, x0_3][0]? := hf0 0 _ rfl
  rw [show Try.prog.cellsOf 3 = 1 from by kernel_rfl] at h0_0
  replace h0_0 : DataW.trod enc Try.prog W base spare held n0 3 [c0_0] = some x0_0 := h0_0
  have h0_1 : DataW.trod enc Try.prog W base spare held n0 22 (List.take (Try.prog.cellsOf 22) (List.drop 1 [c0_0, c0_1, c0_2, c0_3, c0_4])) = [x0_0, x0_1, x0_2, x0_3][1]? := hf0 1 _ rfl
  rw [show Try.prog.cellsOf 22 = 1 from by kernel_rfl] at h0_1
  replace h0_1 : DataW.trod enc Try.prog W base spare held n0 22 [c0_1] = some x0_1 := h0_1
  have h0_2 : DataW.trod enc Try.prog W base spare held n0 9 (List.take (Try.prog.cellsOf 9) (List.drop 2 [c0_0, c0_1, c0_2, c0_3, c0_4])) = [x0_0, x0_1, x0_2, x0_3][2]? := hf0 2 _ rfl
  rw [show Try.prog.cellsOf 9 = 1 from by kernel_rfl] at h0_2
  replace h0_2 : DataW.trod enc Try.prog W base spare held n0 9 [c0_2] = some x0_2 := h0_2
  have h0_3 : DataW.trod enc Try.prog W base spare held n0 43 (List.take (Try.prog.cellsOf 43) (List.drop 3 [c0_0, c0_1, c0_2, c0_3, c0_4])) = [x0_0, x0_1, x0_2, x0_3][3]? := hf0 3 _ rfl
  rw [show Try.prog.cellsOf 43 = 2 from by kernel_rfl] at h0_3
  replace h0_3 : DataW.trod enc Try.prog W base spare held n0 43 [c0_3, c0_4] = some x0_3 := h0_3
  obtain ⟨a0, q0, z0, w0⟩ := DataW.trod_int Try.underlying3 h0_0
  obtain rfl := List.head_eq_of_cons_eq q0
  subst z0
  obtain ⟨a1, q1, z1, w1⟩ := DataW.trod_int Try.underlying22 h0_1
  obtain rfl := List.head_eq_of_cons_eq q1
  subst z1
  obtain ⟨a2, q2, z2, w2⟩ := DataW.trod_string Try.underlying9 h0_2
  obtain rfl := List.head_eq_of_cons_eq q2
  subst z2
  have hc1 : Try.prog.cellsOf 43 = 2 := by kernel_rfl
  obtain ⟨xs1, n1, _, hx1, hl1, hn1, hf1⟩ := DataW.trod_struct Try.underlying43 h0_3
  rw [hc1] at hl1
  obtain ⟨x1_0, x1_1, rfl⟩ : ∃ x1_0 x1_1, xs1 = [x1_0, x1_1] := by
    match xs1, hn1 with
    | [x1_0, x1_1], _ => exact ⟨_, _, rfl⟩
  have h1_0 : DataW.trod enc Try.prog W base spare held n1 22 (List.take (Try.prog.cellsOf 22) (List.drop 0 [c0_3, c0_4])) = [x1_0, x1_1][0]? := hf1 0 _ rfl
  rw [show Try.prog.cellsOf 22 = 1 from by kernel_rfl] at h1_0
  replace h1_0 : DataW.trod enc Try.prog W base spare held n1 22 [c0_3] = some x1_0 := h1_0
  have h1_1 : DataW.trod enc Try.prog W base spare held n1 41 (List.take (Try.prog.cellsOf 41) (List.drop 1 [c0_3, c0_4])) = [x1_0, x1_1][1]? := hf1 1 _ rfl
  rw [show Try.prog.cellsOf 41 = 1 from by kernel_rfl] at h1_1
  replace h1_1 : DataW.trod enc Try.prog W base spare held n1 41 [c0_4] = some x1_1 := h1_1
  obtain ⟨a3, q3, z3, w3⟩ := DataW.trod_int Try.underlying22 h1_0
  obtain rfl := List.head_eq_of_cons_eq q3
  subst z3
  obtain ⟨a4, q4, z4, w4⟩ := DataW.trod_int Try.underlying41 h1_1
  obtain rfl := List.head_eq_of_cons_eq q4
  subst z4
  refine ⟨⟨a0, a1, a2, ⟨a3, a4⟩⟩, k53_mk W ⟨a0, a1, a2, ⟨a3, a4⟩⟩, ?_⟩
  subst hx0
  subst hx1
  exact ⟨rfl, w0, w1, w2, w3, w4⟩
end Go.Proofs.Ytbmodiomoogffaa.PPackWrites

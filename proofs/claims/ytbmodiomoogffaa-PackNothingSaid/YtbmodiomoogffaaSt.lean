/- PackCuts' and PackNothing's arguments, opened. Conditions: those that each theorem names. -/
import Derived.Test.YtbmodiomoogffaaRi
import Derived.Test.YtbmodiomoogffaaAw
import Derived.Deep.Slices
import Derived.ChangeArms
import Derived.SizedLaws
set_option linter.unusedVariables false
set_option linter.unusedSimpArgs false
namespace Go.Proofs.Ytbmodiomoogffaa
open Go.RowKit Go.Deep Go.Proofs.YtbmodiomoogffaaW.PrintWords
structure S43 where
  f0 : Int
  f1 : Int
def k43 (a : S43) (cs : List Value) : Prop := cs = [.int .u64 a.f0, .int .u32 a.f1]
structure S45 where
  f0 : Int
  f1 : ByteArray
  f2 : Int
  f3 : Int
  f4 : Int
def k45 (a : S45) (cs : List Value) : Prop := cs = [.int .u64 a.f0, .string a.f1, .int .u64 a.f2, .int .u32 a.f3, .int .i64 a.f4]
def Q43 {H : Type} (a : S43) (d : DataW H) : Prop := d = .agg [.lit (.int .u64 a.f0), .lit (.int .u32 a.f1)] ∧ (Lit.int .u64 a.f0).wf = true ∧ (Lit.int .u32 a.f1).wf = true
theorem open_S43 {H : Type} {enc : TypeId × Value → H} {W : World} {base : Nat} {spare : Nat → Bool} {held : Bool} (n : Nat) (cs : List Value) (x : DataW H × List MemPlace) (h : DataW.trod enc Try.prog W base spare held n 43 cs = some x) : ∃ a : S43, k43 a cs ∧ Q43 a x.1 := by
  have hc0 : Try.prog.cellsOf 43 = 2 := by kernel_rfl
  obtain ⟨xs0, n0, _, hx0, hl0, hn0, hf0⟩ := DataW.trod_struct Try.underlying43 h
  rw [hc0] at hl0
  obtain ⟨c0_0, c0_1, rfl⟩ : ∃ c0_0 c0_1, cs = [c0_0, c0_1] := by
    match cs, hl0 with
    | [c0_0, c0_1], _ => exact ⟨_, _, rfl⟩
  obtain ⟨x0_0, x0_1, rfl⟩ : ∃ x0_0 x0_1, xs0 = [x0_0, x0_1] := by
    match xs0, hn0 with
    | [x0_0, x0_1], _ => exact ⟨_, _, rfl⟩
  have h0_0 : DataW.trod enc Try.prog W base spare held n0 22 (List.take (Try.prog.cellsOf 22) (List.drop 0 [c0_0, c0_1])) = [x0_0, x0_1][0]? := hf0 0 _ rfl
  rw [show Try.prog.cellsOf 22 = 1 from by kernel_rfl] at h0_0
  replace h0_0 : DataW.trod enc Try.prog W base spare held n0 22 [c0_0] = some x0_0 := h0_0
  have h0_1 : DataW.trod enc Try.prog W base spare held n0 41 (List.take (Try.prog.cellsOf 41) (List.drop 1 [c0_0, c0_1])) = [x0_0, x0_1][1]? := hf0 1 _ rfl
  rw [show Try.prog.cellsOf 41 = 1 from by kernel_rfl] at h0_1
  replace h0_1 : DataW.trod enc Try.prog W base spare held n0 41 [c0_1] = some x0_1 := h0_1
  obtain ⟨a0, q0, z0, w0⟩ := DataW.trod_int Try.underlying22 h0_0
  obtain rfl := List.head_eq_of_cons_eq q0
  subst z0
  obtain ⟨a1, q1, z1, w1⟩ := DataW.trod_int Try.underlying41 h0_1
  obtain rfl := List.head_eq_of_cons_eq q1
  subst z1
  refine ⟨⟨a0, a1⟩, rfl, ?_⟩
  subst hx0
  exact ⟨rfl, w0, w1⟩
def Q45 {H : Type} (a : S45) (d : DataW H) : Prop := d = .agg [.lit (.int .u64 a.f0), .lit (.string a.f1.data.toList), .agg [.lit (.int .u64 a.f2), .lit (.int .u32 a.f3)], .lit (.int .i64 a.f4)] ∧ (Lit.int .u64 a.f0).wf = true ∧ a.f1.size ≤ maxLen ∧ (Lit.int .u64 a.f2).wf = true ∧ (Lit.int .u32 a.f3).wf = true ∧ (Lit.int .i64 a.f4).wf = true
theorem open_S45 {H : Type} {enc : TypeId × Value → H} {W : World} {base : Nat} {spare : Nat → Bool} {held : Bool} (n : Nat) (cs : List Value) (x : DataW H × List MemPlace) (h : DataW.trod enc Try.prog W base spare held n 45 cs = some x) : ∃ a : S45, k45 a cs ∧ Q45 a x.1 := by
  have hc0 : Try.prog.cellsOf 45 = 5 := by kernel_rfl
  obtain ⟨xs0, n0, _, hx0, hl0, hn0, hf0⟩ := DataW.trod_struct Try.underlying45 h
  rw [hc0] at hl0
  obtain ⟨c0_0, c0_1, c0_2, c0_3, c0_4, rfl⟩ : ∃ c0_0 c0_1 c0_2 c0_3 c0_4, cs = [c0_0, c0_1, c0_2, c0_3, c0_4] := by
    match cs, hl0 with
    | [c0_0, c0_1, c0_2, c0_3, c0_4], _ => exact ⟨_, _, _, _, _, rfl⟩
  obtain ⟨x0_0, x0_1, x0_2, x0_3, rfl⟩ : ∃ x0_0 x0_1 x0_2 x0_3, xs0 = [x0_0, x0_1, x0_2, x0_3] := by
    match xs0, hn0 with
    | [x0_0, x0_1, x0_2, x0_3], _ => exact ⟨_, _, _, _, rfl⟩
  have h0_0 : DataW.trod enc Try.prog W base spare held n0 22 (List.take (Try.prog.cellsOf 22) (List.drop 0 [c0_0, c0_1, c0_2, c0_3, c0_4])) = [x0_0, x0_1, x0_2, x0_3][0]? := hf0 0 _ rfl
  rw [show Try.prog.cellsOf 22 = 1 from by kernel_rfl] at h0_0
  replace h0_0 : DataW.trod enc Try.prog W base spare held n0 22 [c0_0] = some x0_0 := h0_0
  have h0_1 : DataW.trod enc Try.prog W base spare held n0 9 (List.take (Try.prog.cellsOf 9) (List.drop 1 [c0_0, c0_1, c0_2, c0_3, c0_4])) = [x0_0, x0_1, x0_2, x0_3][1]? := hf0 1 _ rfl
  rw [show Try.prog.cellsOf 9 = 1 from by kernel_rfl] at h0_1
  replace h0_1 : DataW.trod enc Try.prog W base spare held n0 9 [c0_1] = some x0_1 := h0_1
  have h0_2 : DataW.trod enc Try.prog W base spare held n0 43 (List.take (Try.prog.cellsOf 43) (List.drop 2 [c0_0, c0_1, c0_2, c0_3, c0_4])) = [x0_0, x0_1, x0_2, x0_3][2]? := hf0 2 _ rfl
  rw [show Try.prog.cellsOf 43 = 2 from by kernel_rfl] at h0_2
  replace h0_2 : DataW.trod enc Try.prog W base spare held n0 43 [c0_2, c0_3] = some x0_2 := h0_2
  have h0_3 : DataW.trod enc Try.prog W base spare held n0 3 (List.take (Try.prog.cellsOf 3) (List.drop 4 [c0_0, c0_1, c0_2, c0_3, c0_4])) = [x0_0, x0_1, x0_2, x0_3][3]? := hf0 3 _ rfl
  rw [show Try.prog.cellsOf 3 = 1 from by kernel_rfl] at h0_3
  replace h0_3 : DataW.trod enc Try.prog W base spare held n0 3 [c0_4] = some x0_3 := h0_3
  obtain ⟨a0, q0, z0, w0⟩ := DataW.trod_int Try.underlying22 h0_0
  obtain rfl := List.head_eq_of_cons_eq q0
  subst z0
  obtain ⟨a1, q1, z1, w1⟩ := DataW.trod_string Try.underlying9 h0_1
  obtain rfl := List.head_eq_of_cons_eq q1
  subst z1
  have hc1 : Try.prog.cellsOf 43 = 2 := by kernel_rfl
  obtain ⟨xs1, n1, _, hx1, hl1, hn1, hf1⟩ := DataW.trod_struct Try.underlying43 h0_2
  rw [hc1] at hl1
  obtain ⟨x1_0, x1_1, rfl⟩ : ∃ x1_0 x1_1, xs1 = [x1_0, x1_1] := by
    match xs1, hn1 with
    | [x1_0, x1_1], _ => exact ⟨_, _, rfl⟩
  have h1_0 : DataW.trod enc Try.prog W base spare held n1 22 (List.take (Try.prog.cellsOf 22) (List.drop 0 [c0_2, c0_3])) = [x1_0, x1_1][0]? := hf1 0 _ rfl
  rw [show Try.prog.cellsOf 22 = 1 from by kernel_rfl] at h1_0
  replace h1_0 : DataW.trod enc Try.prog W base spare held n1 22 [c0_2] = some x1_0 := h1_0
  have h1_1 : DataW.trod enc Try.prog W base spare held n1 41 (List.take (Try.prog.cellsOf 41) (List.drop 1 [c0_2, c0_3])) = [x1_0, x1_1][1]? := hf1 1 _ rfl
  rw [show Try.prog.cellsOf 41 = 1 from by kernel_rfl] at h1_1
  replace h1_1 : DataW.trod enc Try.prog W base spare held n1 41 [c0_3] = some x1_1 := h1_1
  obtain ⟨a2, q2, z2, w2⟩ := DataW.trod_int Try.underlying22 h1_0
  obtain rfl := List.head_eq_of_cons_eq q2
  subst z2
  obtain ⟨a3, q3, z3, w3⟩ := DataW.trod_int Try.underlying41 h1_1
  obtain rfl := List.head_eq_of_cons_eq q3
  subst z3
  obtain ⟨a4, q4, z4, w4⟩ := DataW.trod_int Try.underlying3 h0_3
  obtain rfl := List.head_eq_of_cons_eq q4
  subst z4
  refine ⟨⟨a0, a1, a2, a3, a4⟩, rfl, ?_⟩
  subst hx0
  subst hx1
  exact ⟨rfl, w0, w1, w2, w3, w4⟩
end Go.Proofs.Ytbmodiomoogffaa

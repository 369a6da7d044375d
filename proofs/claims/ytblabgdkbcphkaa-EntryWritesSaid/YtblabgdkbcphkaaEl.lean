/- An entry that came in, opened; when two are the same. Conditions: those that each theorem names. -/
import Derived.Test.YtblabgdkbcphkaaEj
import Derived.Test.YtblabgdkbcphkaaEk
import Derived.Test.YtblabgdkbcphkaaOp
import Derived.KernelRfl
import Derived.SizedLaws
import Derived.OpenShut
set_option linter.unusedVariables false
set_option linter.unusedSimpArgs false
set_option linter.constructorNameAsVariable false
namespace Go.Proofs.Ytblabgdkbcphkaa
open Go.RowKit Go.Deep Go.Proofs.YtblabgdkbcphkaaW.PrintWords Go.Proofs.Ytblabgdkbcphkaa.PEs Go.Proofs.Ytblabgdkbcphkaa.PRd
theorem b32 {n : Int} (h : (Lit.int .u32 n).wf = true) : U32 n := by have := Go.bounds_u32 h; unfold U32; omega
theorem b64 {n : Int} (h : (Lit.int .u64 n).wf = true) : U64 n := by have := Go.bounds_u64 h; unfold U64; omega
theorem b8 {n : Int} (h : (Lit.int .u8 n).wf = true) : 0 ≤ n ∧ n ≤ 255 := by have := Go.bounds_u8 h; omega
def Q54 {H : Type} (a : S54) (d : DataW H) : Prop := d = .agg [.lit (.string a.f0.data.toList), .lit (.string a.f1.data.toList), .lit (.bool a.f2)] ∧ a.f0.size ≤ maxLen ∧ a.f1.size ≤ maxLen
set_option maxRecDepth 100000 in
theorem open_S54 {H : Type} {enc : TypeId × Value → H} {W : World} {base : Nat} {spare : Nat → Bool} {held : Bool} (n : Nat) (cs : List Value) (x : DataW H × List MemPlace) (h : DataW.trod enc Try.prog W base spare held n 54 cs = some x) : ∃ a : S54, k54.K W a cs ∧ Q54 a x.1 := by
  have hc0 : Try.prog.cellsOf 54 = 3 := by kernel_rfl
  obtain ⟨xs0, n0, _, hx0, hl0, hn0, hf0⟩ := DataW.trod_struct Try.underlying54 h
  rw [hc0] at hl0
  obtain ⟨c0_0, c0_1, c0_2, rfl⟩ : ∃ c0_0 c0_1 c0_2, cs = [c0_0, c0_1, c0_2] := by
    match cs, hl0 with
    | [c0_0, c0_1, c0_2], _ => exact ⟨_, _, _, rfl⟩
  obtain ⟨x0_0, x0_1, x0_2, rfl⟩ : ∃ x0_0 x0_1 x0_2, xs0 = [x0_0, x0_1, x0_2] := by
    match xs0, hn0 with
    | [x0_0, x0_1, x0_2], _ => exact ⟨_, _, _, rfl⟩
  have h0_0 : DataW.trod enc Try.prog W base spare held n0 9 (List.take (Try.prog.cellsOf 9) (List.drop 0 [c0_0, c0_1, c0_2])) = [x0_0, x0_1, x0_2][0]? := hf0 0 _ rfl
  rw [show Try.prog.cellsOf 9 = 1 from by kernel_rfl] at h0_0
  replace h0_0 : DataW.trod enc Try.prog W base spare held n0 9 [c0_0] = some x0_0 := h0_0
  have h0_1 : DataW.trod enc Try.prog W base spare held n0 9 (List.take (Try.prog.cellsOf 9) (List.drop 1 [c0_0, c0_1, c0_2])) = [x0_0, x0_1, x0_2][1]? := hf0 1 _ rfl
  rw [show Try.prog.cellsOf 9 = 1 from by kernel_rfl] at h0_1
  replace h0_1 : DataW.trod enc Try.prog W base spare held n0 9 [c0_1] = some x0_1 := h0_1
  have h0_2 : DataW.trod enc Try.prog W base spare held n0 4 (List.take (Try.prog.cellsOf 4) (List.drop 2 [c0_0, c0_1, c0_2])) = [x0_0, x0_1, x0_2][2]? := hf0 2 _ rfl
  rw [show Try.prog.cellsOf 4 = 1 from by kernel_rfl] at h0_2
  replace h0_2 : DataW.trod enc Try.prog W base spare held n0 4 [c0_2] = some x0_2 := h0_2
  obtain ⟨a0, q0, z0, w0⟩ := DataW.trod_string Try.underlying9 h0_0
  obtain rfl := List.head_eq_of_cons_eq q0
  subst z0
  obtain ⟨a1, q1, z1, w1⟩ := DataW.trod_string Try.underlying9 h0_1
  obtain rfl := List.head_eq_of_cons_eq q1
  subst z1
  obtain ⟨a2, q2, z2⟩ := DataW.trod_bool Try.underlying4 h0_2
  obtain rfl := List.head_eq_of_cons_eq q2
  subst z2
  refine ⟨⟨a0, a1, a2⟩, k54_mk W ⟨a0, a1, a2⟩, ?_⟩
  subst hx0
  exact ⟨rfl, w0, w1⟩
set_option maxRecDepth 100000 in
theorem open_S30 {H : Type} {enc : TypeId × Value → H} {W : World} {base : Nat} {spare : Nat → Bool} {held : Bool} (n : Nat) (cs : List Value) (x : DataW H × List MemPlace) (h : DataW.trod enc Try.prog W base spare held n 30 cs = some x) : ∃ (l : En) (A : Option Addr) (c : Nat), cs = [.int .i64 l.k, .int .u32 l.bc, .int .u32 l.bn, .int .u64 l.sp, .int .u32 l.sl, .int .u64 l.ap, .int .u32 l.al, .int .u64 l.mp, .int .u32 l.ml, .string l.pr, .int .u8 l.parts, .bool l.done, .slice A l.ws.length c] ∧ EnIn W l A c ∧ (l.ws.length ≤ 9223372036854775807 → EOk l) := by
  have hc0 : Try.prog.cellsOf 30 = 13 := by kernel_rfl
  obtain ⟨xs0, n0, _, hx0, hl0, hn0, hf0⟩ := DataW.trod_struct Try.underlying30 h
  rw [hc0] at hl0
  obtain ⟨c0_0, c0_1, c0_2, c0_3, c0_4, c0_5, c0_6, c0_7, c0_8, c0_9, c0_10, c0_11, c0_12, rfl⟩ : ∃ c0_0 c0_1 c0_2 c0_3 c0_4 c0_5 c0_6 c0_7 c0_8 c0_9 c0_10 c0_11 c0_12, cs = [c0_0, c0_1, c0_2, c0_3, c0_4, c0_5, c0_6, c0_7, c0_8, c0_9, c0_10, c0_11, c0_12] := by
    match cs, hl0 with
    | [c0_0, c0_1, c0_2, c0_3, c0_4, c0_5, c0_6, c0_7, c0_8, c0_9, c0_10, c0_11, c0_12], _ => exact ⟨_, _, _, _, _, _, _, _, _, _, _, _, _, rfl⟩
  obtain ⟨x0_0, x0_1, x0_2, x0_3, x0_4, x0_5, x0_6, x0_7, x0_8, rfl⟩ : ∃ x0_0 x0_1 x0_2 x0_3 x0_4 x0_5 x0_6 x0_7 x0_8, xs0 = [x0_0, x0_1, x0_2, x0_3, x0_4, x0_5, x0_6, x0_7, x0_8] := by
    match xs0, hn0 with
    | [x0_0, x0_1, x0_2, x0_3, x0_4, x0_5, x0_6, x0_7, x0_8], _ => exact ⟨_, _, _, _, _, _, _, _, _, rfl⟩
  have h0_0 : DataW.trod enc Try.prog W base spare held n0 3 (List.take (Try.prog.cellsOf 3) (List.drop 0 [c0_0, c0_1, c0_2, c0_3, c0_4, c0_5, c0_6, c0_7, c0_8, c0_9, c0_10, c0_11, c0_12])) = [x0_0, x0_1, x0_2, x0_3, x0_4, x0_5, x0_6, x0_7, x0_8][0]? := hf0 0 _ rfl
  rw [show Try.prog.cellsOf 3 = 1 from by kernel_rfl] at h0_0
  replace h0_0 : DataW.trod enc Try.prog W base spare held n0 3 [c0_0] = some x0_0 := h0_0
  have h0_1 : DataW.trod enc Try.prog W base spare held n0 24 (List.take (Try.prog.cellsOf 24) (List.drop 1 [c0_0, c0_1, c0_2, c0_3, c0_4, c0_5, c0_6, c0_7, c0_8, c0_9, c0_10, c0_11, c0_12])) = [x0_0, x0_1, x0_2, x0_3, x0_4, x0_5, x0_6, x0_7, x0_8][1]? := hf0 1 _ rfl
  rw [show Try.prog.cellsOf 24 = 2 from by kernel_rfl] at h0_1
  replace h0_1 : DataW.trod enc Try.prog W base spare held n0 24 [c0_1, c0_2] = some x0_1 := h0_1
  have h0_2 : DataW.trod enc Try.prog W base spare held n0 27 (List.take (Try.prog.cellsOf 27) (List.drop 3 [c0_0, c0_1, c0_2, c0_3, c0_4, c0_5, c0_6, c0_7, c0_8, c0_9, c0_10, c0_11, c0_12])) = [x0_0, x0_1, x0_2, x0_3, x0_4, x0_5, x0_6, x0_7, x0_8][2]? := hf0 2 _ rfl
  rw [show Try.prog.cellsOf 27 = 2 from by kernel_rfl] at h0_2
  replace h0_2 : DataW.trod enc Try.prog W base spare held n0 27 [c0_3, c0_4] = some x0_2 := h0_2
  have h0_3 : DataW.trod enc Try.prog W base spare held n0 27 (List.take (Try.prog.cellsOf 27) (List.drop 5 [c0_0, c0_1, c0_2, c0_3, c0_4, c0_5, c0_6, c0_7, c0_8, c0_9, c0_10, c0_11, c0_12])) = [x0_0, x0_1, x0_2, x0_3, x0_4, x0_5, x0_6, x0_7, x0_8][3]? := hf0 3 _ rfl
  rw [show Try.prog.cellsOf 27 = 2 from by kernel_rfl] at h0_3
  replace h0_3 : DataW.trod enc Try.prog W base spare held n0 27 [c0_5, c0_6] = some x0_3 := h0_3
  have h0_4 : DataW.trod enc Try.prog W base spare held n0 27 (List.take (Try.prog.cellsOf 27) (List.drop 7 [c0_0, c0_1, c0_2, c0_3, c0_4, c0_5, c0_6, c0_7, c0_8, c0_9, c0_10, c0_11, c0_12])) = [x0_0, x0_1, x0_2, x0_3, x0_4, x0_5, x0_6, x0_7, x0_8][4]? := hf0 4 _ rfl
  rw [show Try.prog.cellsOf 27 = 2 from by kernel_rfl] at h0_4
  replace h0_4 : DataW.trod enc Try.prog W base spare held n0 27 [c0_7, c0_8] = some x0_4 := h0_4
  have h0_5 : DataW.trod enc Try.prog W base spare held n0 9 (List.take (Try.prog.cellsOf 9) (List.drop 9 [c0_0, c0_1, c0_2, c0_3, c0_4, c0_5, c0_6, c0_7, c0_8, c0_9, c0_10, c0_11, c0_12])) = [x0_0, x0_1, x0_2, x0_3, x0_4, x0_5, x0_6, x0_7, x0_8][5]? := hf0 5 _ rfl
  rw [show Try.prog.cellsOf 9 = 1 from by kernel_rfl] at h0_5
  replace h0_5 : DataW.trod enc Try.prog W base spare held n0 9 [c0_9] = some x0_5 := h0_5
  have h0_6 : DataW.trod enc Try.prog W base spare held n0 5 (List.take (Try.prog.cellsOf 5) (List.drop 10 [c0_0, c0_1, c0_2, c0_3, c0_4, c0_5, c0_6, c0_7, c0_8, c0_9, c0_10, c0_11, c0_12])) = [x0_0, x0_1, x0_2, x0_3, x0_4, x0_5, x0_6, x0_7, x0_8][6]? := hf0 6 _ rfl
  rw [show Try.prog.cellsOf 5 = 1 from by kernel_rfl] at h0_6
  replace h0_6 : DataW.trod enc Try.prog W base spare held n0 5 [c0_10] = some x0_6 := h0_6
  have h0_7 : DataW.trod enc Try.prog W base spare held n0 4 (List.take (Try.prog.cellsOf 4) (List.drop 11 [c0_0, c0_1, c0_2, c0_3, c0_4, c0_5, c0_6, c0_7, c0_8, c0_9, c0_10, c0_11, c0_12])) = [x0_0, x0_1, x0_2, x0_3, x0_4, x0_5, x0_6, x0_7, x0_8][7]? := hf0 7 _ rfl
  rw [show Try.prog.cellsOf 4 = 1 from by kernel_rfl] at h0_7
  replace h0_7 : DataW.trod enc Try.prog W base spare held n0 4 [c0_11] = some x0_7 := h0_7
  have h0_8 : DataW.trod enc Try.prog W base spare held n0 28 (List.take (Try.prog.cellsOf 28) (List.drop 12 [c0_0, c0_1, c0_2, c0_3, c0_4, c0_5, c0_6, c0_7, c0_8, c0_9, c0_10, c0_11, c0_12])) = [x0_0, x0_1, x0_2, x0_3, x0_4, x0_5, x0_6, x0_7, x0_8][8]? := hf0 8 _ rfl
  rw [show Try.prog.cellsOf 28 = 1 from by kernel_rfl] at h0_8
  replace h0_8 : DataW.trod enc Try.prog W base spare held n0 28 [c0_12] = some x0_8 := h0_8
  obtain ⟨a0, q0, z0, w0⟩ := DataW.trod_int Try.underlying3 h0_0
  obtain rfl := List.head_eq_of_cons_eq q0
  subst z0
  have hc1 : Try.prog.cellsOf 24 = 2 := by kernel_rfl
  obtain ⟨xs1, n1, _, hx1, hl1, hn1, hf1⟩ := DataW.trod_struct Try.underlying24 h0_1
  rw [hc1] at hl1
  obtain ⟨x1_0, x1_1, rfl⟩ : ∃ x1_0 x1_1, xs1 = [x1_0, x1_1] := by
    match xs1, hn1 with
    | [x1_0, x1_1], _ => exact ⟨_, _, rfl⟩
  have h1_0 : DataW.trod enc Try.prog W base spare held n1 22 (List.take (Try.prog.cellsOf 22) (List.drop 0 [c0_1, c0_2])) = [x1_0, x1_1][0]? := hf1 0 _ rfl
  rw [show Try.prog.cellsOf 22 = 1 from by kernel_rfl] at h1_0
  replace h1_0 : DataW.trod enc Try.prog W base spare held n1 22 [c0_1] = some x1_0 := h1_0
  have h1_1 : DataW.trod enc Try.prog W base spare held n1 22 (List.take (Try.prog.cellsOf 22) (List.drop 1 [c0_1, c0_2])) = [x1_0, x1_1][1]? := hf1 1 _ rfl
  rw [show Try.prog.cellsOf 22 = 1 from by kernel_rfl] at h1_1
  replace h1_1 : DataW.trod enc Try.prog W base spare held n1 22 [c0_2] = some x1_1 := h1_1
  obtain ⟨a1, q1, z1, w1⟩ := DataW.trod_int Try.underlying22 h1_0
  obtain rfl := List.head_eq_of_cons_eq q1
  subst z1
  obtain ⟨a2, q2, z2, w2⟩ := DataW.trod_int Try.underlying22 h1_1
  obtain rfl := List.head_eq_of_cons_eq q2
  subst z2
  have hc2 : Try.prog.cellsOf 27 = 2 := by kernel_rfl
  obtain ⟨xs2, n2, _, hx2, hl2, hn2, hf2⟩ := DataW.trod_struct Try.underlying27 h0_2
  rw [hc2] at hl2
  obtain ⟨x2_0, x2_1, rfl⟩ : ∃ x2_0 x2_1, xs2 = [x2_0, x2_1] := by
    match xs2, hn2 with
    | [x2_0, x2_1], _ => exact ⟨_, _, rfl⟩
  have h2_0 : DataW.trod enc Try.prog W base spare held n2 25 (List.take (Try.prog.cellsOf 25) (List.drop 0 [c0_3, c0_4])) = [x2_0, x2_1][0]? := hf2 0 _ rfl
  rw [show Try.prog.cellsOf 25 = 1 from by kernel_rfl] at h2_0
  replace h2_0 : DataW.trod enc Try.prog W base spare held n2 25 [c0_3] = some x2_0 := h2_0
  have h2_1 : DataW.trod enc Try.prog W base spare held n2 22 (List.take (Try.prog.cellsOf 22) (List.drop 1 [c0_3, c0_4])) = [x2_0, x2_1][1]? := hf2 1 _ rfl
  rw [show Try.prog.cellsOf 22 = 1 from by kernel_rfl] at h2_1
  replace h2_1 : DataW.trod enc Try.prog W base spare held n2 22 [c0_4] = some x2_1 := h2_1
  obtain ⟨a3, q3, z3, w3⟩ := DataW.trod_int Try.underlying25 h2_0
  obtain rfl := List.head_eq_of_cons_eq q3
  subst z3
  obtain ⟨a4, q4, z4, w4⟩ := DataW.trod_int Try.underlying22 h2_1
  obtain rfl := List.head_eq_of_cons_eq q4
  subst z4
  have hc3 : Try.prog.cellsOf 27 = 2 := by kernel_rfl
  obtain ⟨xs3, n3, _, hx3, hl3, hn3, hf3⟩ := DataW.trod_struct Try.underlying27 h0_3
  rw [hc3] at hl3
  obtain ⟨x3_0, x3_1, rfl⟩ : ∃ x3_0 x3_1, xs3 = [x3_0, x3_1] := by
    match xs3, hn3 with
    | [x3_0, x3_1], _ => exact ⟨_, _, rfl⟩
  have h3_0 : DataW.trod enc Try.prog W base spare held n3 25 (List.take (Try.prog.cellsOf 25) (List.drop 0 [c0_5, c0_6])) = [x3_0, x3_1][0]? := hf3 0 _ rfl
  rw [show Try.prog.cellsOf 25 = 1 from by kernel_rfl] at h3_0
  replace h3_0 : DataW.trod enc Try.prog W base spare held n3 25 [c0_5] = some x3_0 := h3_0
  have h3_1 : DataW.trod enc Try.prog W base spare held n3 22 (List.take (Try.prog.cellsOf 22) (List.drop 1 [c0_5, c0_6])) = [x3_0, x3_1][1]? := hf3 1 _ rfl
  rw [show Try.prog.cellsOf 22 = 1 from by kernel_rfl] at h3_1
  replace h3_1 : DataW.trod enc Try.prog W base spare held n3 22 [c0_6] = some x3_1 := h3_1
  obtain ⟨a5, q5, z5, w5⟩ := DataW.trod_int Try.underlying25 h3_0
  obtain rfl := List.head_eq_of_cons_eq q5
  subst z5
  obtain ⟨a6, q6, z6, w6⟩ := DataW.trod_int Try.underlying22 h3_1
  obtain rfl := List.head_eq_of_cons_eq q6
  subst z6
  have hc4 : Try.prog.cellsOf 27 = 2 := by kernel_rfl
  obtain ⟨xs4, n4, _, hx4, hl4, hn4, hf4⟩ := DataW.trod_struct Try.underlying27 h0_4
  rw [hc4] at hl4
  obtain ⟨x4_0, x4_1, rfl⟩ : ∃ x4_0 x4_1, xs4 = [x4_0, x4_1] := by
    match xs4, hn4 with
    | [x4_0, x4_1], _ => exact ⟨_, _, rfl⟩
  have h4_0 : DataW.trod enc Try.prog W base spare held n4 25 (List.take (Try.prog.cellsOf 25) (List.drop 0 [c0_7, c0_8])) = [x4_0, x4_1][0]? := hf4 0 _ rfl
  rw [show Try.prog.cellsOf 25 = 1 from by kernel_rfl] at h4_0
  replace h4_0 : DataW.trod enc Try.prog W base spare held n4 25 [c0_7] = some x4_0 := h4_0
  have h4_1 : DataW.trod enc Try.prog W base spare held n4 22 (List.take (Try.prog.cellsOf 22) (List.drop 1 [c0_7, c0_8])) = [x4_0, x4_1][1]? := hf4 1 _ rfl
  rw [show Try.prog.cellsOf 22 = 1 from by kernel_rfl] at h4_1
  replace h4_1 : DataW.trod enc Try.prog W base spare held n4 22 [c0_8] = some x4_1 := h4_1
  obtain ⟨a7, q7, z7, w7⟩ := DataW.trod_int Try.underlying25 h4_0
  obtain rfl := List.head_eq_of_cons_eq q7
  subst z7
  obtain ⟨a8, q8, z8, w8⟩ := DataW.trod_int Try.underlying22 h4_1
  obtain rfl := List.head_eq_of_cons_eq q8
  subst z8
  obtain ⟨a9, q9, z9, w9⟩ := DataW.trod_string Try.underlying9 h0_5
  obtain rfl := List.head_eq_of_cons_eq q9
  subst z9
  obtain ⟨a10, q10, z10, w10⟩ := DataW.trod_int Try.underlying5 h0_6
  obtain rfl := List.head_eq_of_cons_eq q10
  subst z10
  obtain ⟨a11, q11, z11⟩ := DataW.trod_bool Try.underlying4 h0_7
  obtain rfl := List.head_eq_of_cons_eq q11
  subst z11
  obtain ⟨A12, g12, a12, q12, w12, r12, z12⟩ := open_kd (k := k54) (Q := Q54) Try.underlying28 (by kernel_rfl) open_S54 h0_8
  obtain rfl := List.head_eq_of_cons_eq q12
  exact ⟨⟨a0, a1, a2, a3, a4, a5, a6, a7, a8, a9, a10, a11, a12⟩, A12, g12, rfl, ⟨r12, w12⟩, fun h => ⟨Go.bounds_i64 w0, b32 w1, b32 w2, b64 w3, b32 w4, b64 w5, b32 w6, b64 w7, b32 w8, b8 w10, h⟩⟩
theorem entry_open {H : Type} {enc : TypeId × Value → H} (W : World) (v0 : Value) (d0 : DataW H) (p0 : List MemPlace)
    (h0 : DataW.Trod enc Try.prog W 0 (fun _ => true) true 30 v0 d0 p0) {base : Nat} (u0 : Value.okWide Try.prog W .any base 30 v0) :
    ∃ (l : En) (A : Option Addr) (c : Nat), v0 = EnV l A c ∧ EnIn W l A c ∧ EOk l := by
  obtain ⟨cs, rfl, hcs⟩ := WideShapes.okWide_struct Try.underlying30 u0
  obtain ⟨fuel, hf⟩ := h0
  obtain ⟨l, A, c, e, h1, h2⟩ := open_S30 fuel _ _ hf
  refine ⟨l, A, c, ?_, h1, h2 (by have := h1.h.2.1; omega)⟩
  unfold EnV
  congr 1
  have e2 : cs.toList = _ := e
  rw [← Array.toArray_toList (xs := cs), e2]
/-- Are two things the same? -/
noncomputable def eqD {α : Type} (a b : α) : Bool := @decide (a = b) (Classical.propDecidable _)
theorem eqD_self {α : Type} (a : α) : eqD a a = true := by unfold eqD; simp
theorem eqD_ne {α : Type} {a b : α} (h : a ≠ b) : eqD a b = false := by unfold eqD; simpa using h
theorem eqD_iff {α : Type} (x y : α) : eqD x y = true ↔ x = y := by unfold eqD; simp
theorem tl_inj {a b : ByteArray} : a.toList = b.toList ↔ a = b := by
  constructor
  · intro h
    rw [ByteArray.toList_eq, ByteArray.toList_eq] at h
    cases a; cases b
    simp at h
    rw [ByteArray.mk.injEq]
    exact h
  · intro h; rw [h]
theorem S_ext (x y : S54) (h0 : x.f0.toList = y.f0.toList) (h1 : x.f1.toList = y.f1.toList) (h2 : x.f2 = y.f2) : x = y := by
  obtain ⟨x0, x1, x2⟩ := x
  obtain ⟨y0, y1, y2⟩ := y
  dsimp only at *
  rw [tl_inj.1 h0, tl_inj.1 h1, h2]
theorem same_l0 (a b : En) (hl : a.ws.length = b.ws.length) (hz : a.ws.length ≤ 9223372036854775807) : ∀ (n i k : Nat), i + n = a.ws.length → n + 1 ≤ k → a.ws.take i = b.ws.take i →
    dovecoteref12_Same.l0 k (i : Int) a.k a.bc a.bn a.sp a.sl a.ap a.al a.mp a.ml a.pr a.parts a.done a.ws b.k b.bc b.bn b.sp b.sl b.ap b.al b.mp b.ml b.pr b.parts b.done b.ws = some (eqD a b) := by
  intro n
  induction n with
  | zero =>
    intro i k hi hk ht
    obtain ⟨k, rfl⟩ : ∃ m, k = m + 1 := ⟨k - 1, by omega⟩
    have hws : a.ws = b.ws := by
      have h1 : a.ws.take i = a.ws := List.take_of_length_le (by omega)
      have h2 : b.ws.take i = b.ws := List.take_of_length_le (by omega)
      rw [← h1, ht, h2]
    rw [dovecoteref12_Same.l0, if_neg (by omega)]
    obtain ⟨k0, bc, bn, sp, sl, ap, al, mp, ml, pr, parts, done, ws⟩ := a
    obtain ⟨k0', bc', bn', sp', sl', ap', al', mp', ml', pr', parts', done', ws'⟩ := b
    dsimp only at *
    subst hws
    have hne : ∀ (h : ¬ (k0 = k0' ∧ bc = bc' ∧ bn = bn' ∧ sp = sp' ∧ sl = sl' ∧ ap = ap' ∧ al = al' ∧ mp = mp' ∧ ml = ml' ∧ pr = pr' ∧ parts = parts' ∧ done = done')), eqD (⟨k0, bc, bn, sp, sl, ap, al, mp, ml, pr, parts, done, ws⟩ : En) ⟨k0', bc', bn', sp', sl', ap', al', mp', ml', pr', parts', done', ws⟩ = false := by
      intro h
      refine eqD_ne (fun e => h ?_)
      injection e with e1 e2 e3 e4 e5 e6 e7 e8 e9 e10 e11 e12
      exact ⟨e1, e2, e3, e4, e5, e6, e7, e8, e9, e10, e11, e12⟩
    by_cases h1 : k0 = k0'
    case neg => rw [if_neg h1, hne (fun h => h1 h.1)]
    rw [if_pos h1]
    by_cases h2 : bc = bc' ∧ bn = bn'
    case neg => rw [if_neg (by simpa using h2), hne (fun h => h2 ⟨h.2.1, h.2.2.1⟩)]
    rw [if_pos (by simpa using h2)]
    by_cases h3 : sp = sp' ∧ sl = sl'
    case neg => rw [if_neg (by simpa using h3), hne (fun h => h3 ⟨h.2.2.2.1, h.2.2.2.2.1⟩)]
    rw [if_pos (by simpa using h3)]
    by_cases h4 : ap = ap' ∧ al = al'
    case neg => rw [if_neg (by simpa using h4), hne (fun h => h4 ⟨h.2.2.2.2.2.1, h.2.2.2.2.2.2.1⟩)]
    rw [if_pos (by simpa using h4)]
    by_cases h5 : mp = mp' ∧ ml = ml'
    case neg => rw [if_neg (by simpa using h5), hne (fun h => h5 ⟨h.2.2.2.2.2.2.2.1, h.2.2.2.2.2.2.2.2.1⟩)]
    rw [if_pos (by simpa using h5)]
    by_cases h6 : pr = pr'
    case neg => rw [if_neg (fun h => h6 (tl_inj.1 h)), hne (fun h => h6 h.2.2.2.2.2.2.2.2.2.1)]
    rw [if_pos (tl_inj.2 h6)]
    by_cases h7 : parts = parts'
    case neg => rw [if_neg h7, hne (fun h => h7 h.2.2.2.2.2.2.2.2.2.2.1)]
    rw [if_pos h7]
    by_cases h8 : done = done'
    case neg => rw [show (done == done') = false from by simpa using h8, hne (fun h => h8 h.2.2.2.2.2.2.2.2.2.2.2)]
    obtain ⟨rfl, rfl⟩ := h2
    obtain ⟨rfl, rfl⟩ := h3
    obtain ⟨rfl, rfl⟩ := h4
    obtain ⟨rfl, rfl⟩ := h5
    subst h1 h6 h7 h8
    rw [eqD_self]
    simp
  | succ n ih =>
    intro i k hi hk ht
    obtain ⟨k, rfl⟩ : ∃ m, k = m + 1 := ⟨k - 1, by omega⟩
    have ha : i < a.ws.length := by omega
    have hb : i < b.ws.length := by omega
    have e : wrap64 ((i : Int) + 1) = ((i + 1 : Nat) : Int) := by unfold wrap64; omega
    rw [dovecoteref12_Same.l0, if_pos (by omega), if_pos (by omega), if_pos (by omega), rd_at a.ws i ha, rd_at b.ws i hb, e]
    by_cases hq : a.ws[i] = b.ws[i]
    · rw [if_neg (by rw [hq]; simp), ih (i + 1) k (by omega) (by omega) (by rw [List.take_succ_eq_append_getElem ha, List.take_succ_eq_append_getElem hb, ht, hq])]
    · rw [if_pos ?_, eqD_ne (fun h => hq (by subst h; rfl))]
      have : ¬ (a.ws[i].f0.toList = b.ws[i].f0.toList ∧ a.ws[i].f1.toList = b.ws[i].f1.toList ∧ a.ws[i].f2 = b.ws[i].f2) := fun h => hq (S_ext _ _ h.1 h.2.1 h.2.2)
      by_cases g0 : a.ws[i].f0.toList = b.ws[i].f0.toList
      · by_cases g1 : a.ws[i].f1.toList = b.ws[i].f1.toList
        · have g2 : ¬ a.ws[i].f2 = b.ws[i].f2 := fun g2 => this ⟨g0, g1, g2⟩
          rw [g0, g1]; simp [g2]
        · rw [g0]; simp [g1]
      · simp [g0]
theorem same_calls (a b : En) (A B : Option Addr) (c d : Nat) (w : World) (ha : a.ws.length ≤ 9223372036854775807) (h1 : EnIn w a A c) (h2 : EnIn w b B d) :
    Calls Try.prog 12 #[.agg #[.int .i64 a.k, .int .u32 a.bc, .int .u32 a.bn, .int .u64 a.sp, .int .u32 a.sl, .int .u64 a.ap, .int .u32 a.al, .int .u64 a.mp, .int .u32 a.ml, .string a.pr, .int .u8 a.parts, .bool a.done, .slice A a.ws.length c], .agg #[.int .i64 b.k, .int .u32 b.bc, .int .u32 b.bn, .int .u64 b.sp, .int .u32 b.sl, .int .u64 b.ap, .int .u32 b.al, .int .u64 b.mp, .int .u32 b.ml, .string b.pr, .int .u8 b.parts, .bool b.done, .slice B b.ws.length d]] w fun e w' => e = .returned (.bool (eqD a b)) ∧ Below w.heap.size w w' := by
  refine dovecoteref12_Same.calls (a.ws.length + 1) a.k a.bc a.bn a.sp a.sl a.ap a.al a.mp a.ml a.pr a.parts a.done A c a.ws b.k b.bc b.bn b.sp b.sl b.ap b.al b.mp b.ml b.pr b.parts b.done B d b.ws (eqD a b) w h1.h h1.z h2.h h2.z ?_
  unfold dovecoteref12_Same.f
  by_cases hl : a.ws.length = b.ws.length
  · rw [if_pos (by omega)]
    exact same_l0 a b hl ha a.ws.length 0 _ (by omega) (Nat.le_refl _) rfl
  · rw [if_neg (by omega), eqD_ne (fun h => hl (by rw [h]))]
end Go.Proofs.Ytblabgdkbcphkaa

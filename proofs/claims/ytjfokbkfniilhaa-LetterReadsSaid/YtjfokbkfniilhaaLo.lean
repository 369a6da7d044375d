/- A letter that came in, opened. Conditions: those that each theorem names. -/
import Derived.Test.YtjfokbkfniilhaaLm
import Derived.Test.YtjfokbkfniilhaaOp
import Derived.KernelRfl
import Derived.SizedLaws
import Derived.OpenShut
set_option linter.unusedVariables false
set_option linter.unusedSimpArgs false
namespace Go.Proofs.Ytjfokbkfniilhaa
open Go.RowKit Go.Deep Go.Proofs.YtjfokbkfniilhaaW.PrintWords Go.Proofs.Ytjfokbkfniilhaa.PLa Go.Proofs.Ytjfokbkfniilhaa.PRd
theorem b32 {n : Int} (h : (Lit.int .u32 n).wf = true) : U32 n := by have := Go.bounds_u32 h; unfold U32; omega
theorem b64 {n : Int} (h : (Lit.int .u64 n).wf = true) : U64 n := by have := Go.bounds_u64 h; unfold U64; omega
theorem b8 {n : Int} (h : (Lit.int .u8 n).wf = true) : 0 ≤ n ∧ n ≤ 255 := by have := Go.bounds_u8 h; omega
def Q66 {H : Type} (a : S66) (d : DataW H) : Prop := d = .agg [.lit (.string a.f0.data.toList), .lit (.string a.f1.data.toList), .lit (.bool a.f2)] ∧ a.f0.size ≤ maxLen ∧ a.f1.size ≤ maxLen
set_option maxRecDepth 100000 in
theorem open_S66 {H : Type} {enc : TypeId × Value → H} {W : World} {base : Nat} {spare : Nat → Bool} {held : Bool} (n : Nat) (cs : List Value) (x : DataW H × List MemPlace) (h : DataW.trod enc Try.prog W base spare held n 66 cs = some x) : ∃ a : S66, k66.K W a cs ∧ Q66 a x.1 := by
  have hc0 : Try.prog.cellsOf 66 = 3 := by kernel_rfl
  obtain ⟨xs0, n0, _, hx0, hl0, hn0, hf0⟩ := DataW.trod_struct Try.underlying66 h
  rw [hc0] at hl0
  obtain ⟨c0_0, c0_1, c0_2, rfl⟩ : ∃ c0_0 c0_1 c0_2, cs = [c0_0, c0_1, c0_2] := by
    match cs, hl0 with
    | [c0_0, c0_1, c0_2], _ => exact ⟨_, _, _, rfl⟩
  obtain ⟨x0_0, x0_1, x0_2, rfl⟩ : ∃ x0_0 x0_1 x0_2, xs0 = [x0_0, x0_1, x0_2] := by
    match xs0, hn0 with
    | [x0_0, x0_1, x0_2], _ => exact ⟨_, _, _, rfl⟩
  have h0_0 : DataW.trod enc Try.prog W base spare held n0 9 (List.take (Try.prog.cellsOf 9) (List.drop 0 [c0_0, c0_1, c0_2])) = [x0_0, x0_1, x0_2][0]? := hf0 0 _ rfl
  rw [show Try.prog.cellsOf 9 = 1 from by kernel_rfl] at h0_0
  replace h0_0 : DataW.trod enc Try.prog W base spare held n0 9 [c0_0] = some x0_0 := h0_0
  have h0_1 : DataW.trod enc Try.prog W base spare held n0 9 (List.take (Try.prog.cellsOf 9) (List.drop 1 [c0_0, c0_1, c0_2])) = [x0_0, x0_1, x0_2][1]? := hf0 1 _ rfl
  rw [show Try.prog.cellsOf 9 = 1 from by kernel_rfl] at h0_1
  replace h0_1 : DataW.trod enc Try.prog W base spare held n0 9 [c0_1] = some x0_1 := h0_1
  have h0_2 : DataW.trod enc Try.prog W base spare held n0 4 (List.take (Try.prog.cellsOf 4) (List.drop 2 [c0_0, c0_1, c0_2])) = [x0_0, x0_1, x0_2][2]? := hf0 2 _ rfl
  rw [show Try.prog.cellsOf 4 = 1 from by kernel_rfl] at h0_2
  replace h0_2 : DataW.trod enc Try.prog W base spare held n0 4 [c0_2] = some x0_2 := h0_2
  obtain ⟨a0, q0, z0, w0⟩ := DataW.trod_string Try.underlying9 h0_0
  obtain rfl := List.head_eq_of_cons_eq q0
  subst z0
  obtain ⟨a1, q1, z1, w1⟩ := DataW.trod_string Try.underlying9 h0_1
  obtain rfl := List.head_eq_of_cons_eq q1
  subst z1
  obtain ⟨a2, q2, z2⟩ := DataW.trod_bool Try.underlying4 h0_2
  obtain rfl := List.head_eq_of_cons_eq q2
  subst z2
  refine ⟨⟨a0, a1, a2⟩, k66_mk W ⟨a0, a1, a2⟩, ?_⟩
  subst hx0
  exact ⟨rfl, w0, w1⟩
def Q24 {H : Type} (a : S24) (d : DataW H) : Prop := d = .agg [.lit (.int .u32 a.f0), .lit (.int .u32 a.f1)] ∧ (Lit.int .u32 a.f0).wf = true ∧ (Lit.int .u32 a.f1).wf = true
set_option maxRecDepth 100000 in
theorem open_S24 {H : Type} {enc : TypeId × Value → H} {W : World} {base : Nat} {spare : Nat → Bool} {held : Bool} (n : Nat) (cs : List Value) (x : DataW H × List MemPlace) (h : DataW.trod enc Try.prog W base spare held n 24 cs = some x) : ∃ a : S24, k24.K W a cs ∧ Q24 a x.1 := by
  have hc0 : Try.prog.cellsOf 24 = 2 := by kernel_rfl
  obtain ⟨xs0, n0, _, hx0, hl0, hn0, hf0⟩ := DataW.trod_struct Try.underlying24 h
  rw [hc0] at hl0
  obtain ⟨c0_0, c0_1, rfl⟩ : ∃ c0_0 c0_1, cs = [c0_0, c0_1] := by
    match cs, hl0 with
    | [c0_0, c0_1], _ => exact ⟨_, _, rfl⟩
  obtain ⟨x0_0, x0_1, rfl⟩ : ∃ x0_0 x0_1, xs0 = [x0_0, x0_1] := by
    match xs0, hn0 with
    | [x0_0, x0_1], _ => exact ⟨_, _, rfl⟩
  have h0_0 : DataW.trod enc Try.prog W base spare held n0 22 (List.take (Try.prog.cellsOf 22) (List.drop 0 [c0_0, c0_1])) = [x0_0, x0_1][0]? := hf0 0 _ rfl
  rw [show Try.prog.cellsOf 22 = 1 from by kernel_rfl] at h0_0
  replace h0_0 : DataW.trod enc Try.prog W base spare held n0 22 [c0_0] = some x0_0 := h0_0
  have h0_1 : DataW.trod enc Try.prog W base spare held n0 22 (List.take (Try.prog.cellsOf 22) (List.drop 1 [c0_0, c0_1])) = [x0_0, x0_1][1]? := hf0 1 _ rfl
  rw [show Try.prog.cellsOf 22 = 1 from by kernel_rfl] at h0_1
  replace h0_1 : DataW.trod enc Try.prog W base spare held n0 22 [c0_1] = some x0_1 := h0_1
  obtain ⟨a0, q0, z0, w0⟩ := DataW.trod_int Try.underlying22 h0_0
  obtain rfl := List.head_eq_of_cons_eq q0
  subst z0
  obtain ⟨a1, q1, z1, w1⟩ := DataW.trod_int Try.underlying22 h0_1
  obtain rfl := List.head_eq_of_cons_eq q1
  subst z1
  refine ⟨⟨a0, a1⟩, k24_mk W ⟨a0, a1⟩, ?_⟩
  subst hx0
  exact ⟨rfl, w0, w1⟩
def Q68 {H : Type} (a : S68) (d : DataW H) : Prop := d = .agg [.lit (.string a.f0.data.toList), .lit (.string a.f1.data.toList)] ∧ a.f0.size ≤ maxLen ∧ a.f1.size ≤ maxLen
set_option maxRecDepth 100000 in
theorem open_S68 {H : Type} {enc : TypeId × Value → H} {W : World} {base : Nat} {spare : Nat → Bool} {held : Bool} (n : Nat) (cs : List Value) (x : DataW H × List MemPlace) (h : DataW.trod enc Try.prog W base spare held n 68 cs = some x) : ∃ a : S68, k68.K W a cs ∧ Q68 a x.1 := by
  have hc0 : Try.prog.cellsOf 68 = 2 := by kernel_rfl
  obtain ⟨xs0, n0, _, hx0, hl0, hn0, hf0⟩ := DataW.trod_struct Try.underlying68 h
  rw [hc0] at hl0
  obtain ⟨c0_0, c0_1, rfl⟩ : ∃ c0_0 c0_1, cs = [c0_0, c0_1] := by
    match cs, hl0 with
    | [c0_0, c0_1], _ => exact ⟨_, _, rfl⟩
  obtain ⟨x0_0, x0_1, rfl⟩ : ∃ x0_0 x0_1, xs0 = [x0_0, x0_1] := by
    match xs0, hn0 with
    | [x0_0, x0_1], _ => exact ⟨_, _, rfl⟩
  have h0_0 : DataW.trod enc Try.prog W base spare held n0 9 (List.take (Try.prog.cellsOf 9) (List.drop 0 [c0_0, c0_1])) = [x0_0, x0_1][0]? := hf0 0 _ rfl
  rw [show Try.prog.cellsOf 9 = 1 from by kernel_rfl] at h0_0
  replace h0_0 : DataW.trod enc Try.prog W base spare held n0 9 [c0_0] = some x0_0 := h0_0
  have h0_1 : DataW.trod enc Try.prog W base spare held n0 9 (List.take (Try.prog.cellsOf 9) (List.drop 1 [c0_0, c0_1])) = [x0_0, x0_1][1]? := hf0 1 _ rfl
  rw [show Try.prog.cellsOf 9 = 1 from by kernel_rfl] at h0_1
  replace h0_1 : DataW.trod enc Try.prog W base spare held n0 9 [c0_1] = some x0_1 := h0_1
  obtain ⟨a0, q0, z0, w0⟩ := DataW.trod_string Try.underlying9 h0_0
  obtain rfl := List.head_eq_of_cons_eq q0
  subst z0
  obtain ⟨a1, q1, z1, w1⟩ := DataW.trod_string Try.underlying9 h0_1
  obtain rfl := List.head_eq_of_cons_eq q1
  subst z1
  refine ⟨⟨a0, a1⟩, k68_mk W ⟨a0, a1⟩, ?_⟩
  subst hx0
  exact ⟨rfl, w0, w1⟩
set_option maxRecDepth 100000 in
theorem open_S37 {H : Type} {enc : TypeId × Value → H} {W : World} {base : Nat} {spare : Nat → Bool} {held : Bool} (n : Nat) (cs : List Value) (x : DataW H × List MemPlace) (h : DataW.trod enc Try.prog W base spare held n 37 cs = some x) : ∃ (l : Lt) (A1 : Option Addr) (c1 : Nat) (A2 : Option Addr) (c2 : Nat) (A3 : Option Addr) (c3 : Nat), cs = [.int .u32 l.cl, .int .u32 l.sh, .int .u32 l.sq, .bool l.an, .int .i64 l.q.k, .int .u32 l.q.bc, .int .u32 l.q.bn, .int .u64 l.q.sp, .int .u32 l.q.sl, .int .u64 l.q.ap, .int .u32 l.q.al, .string l.q.key, .string l.q.tt, .int .i64 l.q.lim, .int .u8 l.q.parts, .slice A1 l.q.ws.length c1, .slice A2 l.q.sk.length c2, .int .i64 l.r.k, .int .i64 l.r.er, .bool l.r.fd, .string l.r.val, .slice A3 l.r.ps.length c3, .int .u32 l.r.wc, .int .u32 l.r.wn, .int .u64 l.r.sp, .int .u32 l.r.sl, .int .u64 l.r.ap, .int .u32 l.r.al, .string l.r.pr, .int .u64 l.r.np, .int .u32 l.r.nl] ∧ LtIn W l A1 c1 A2 c2 A3 c3 ∧ (l.q.ws.length ≤ 9223372036854775807 → l.q.sk.length ≤ 9223372036854775807 → l.r.ps.length ≤ 9223372036854775807 → LOk l) := by
  have hc0 : Try.prog.cellsOf 37 = 31 := by kernel_rfl
  obtain ⟨xs0, n0, _, hx0, hl0, hn0, hf0⟩ := DataW.trod_struct Try.underlying37 h
  rw [hc0] at hl0
  obtain ⟨c0_0, c0_1, c0_2, c0_3, c0_4, c0_5, c0_6, c0_7, c0_8, c0_9, c0_10, c0_11, c0_12, c0_13, c0_14, c0_15, c0_16, c0_17, c0_18, c0_19, c0_20, c0_21, c0_22, c0_23, c0_24, c0_25, c0_26, c0_27, c0_28, c0_29, c0_30, rfl⟩ : ∃ c0_0 c0_1 c0_2 c0_3 c0_4 c0_5 c0_6 c0_7 c0_8 c0_9 c0_10 c0_11 c0_12 c0_13 c0_14 c0_15 c0_16 c0_17 c0_18 c0_19 c0_20 c0_21 c0_22 c0_23 c0_24 c0_25 c0_26 c0_27 c0_28 c0_29 c0_30, cs = [c0_0, c0_1, c0_2, c0_3, c0_4, c0_5, c0_6, c0_7, c0_8, c0_9, c0_10, c0_11, c0_12, c0_13, c0_14, c0_15, c0_16, c0_17, c0_18, c0_19, c0_20, c0_21, c0_22, c0_23, c0_24, c0_25, c0_26, c0_27, c0_28, c0_29, c0_30] := by
    match cs, hl0 with
    | [c0_0, c0_1, c0_2, c0_3, c0_4, c0_5, c0_6, c0_7, c0_8, c0_9, c0_10, c0_11, c0_12, c0_13, c0_14, c0_15, c0_16, c0_17, c0_18, c0_19, c0_20, c0_21, c0_22, c0_23, c0_24, c0_25, c0_26, c0_27, c0_28, c0_29, c0_30], _ => exact ⟨_, _, _, _, _, _, _, _, _, _, _, _, _, _, _, _, _, _, _, _, _, _, _, _, _, _, _, _, _, _, _, rfl⟩
  obtain ⟨x0_0, x0_1, x0_2, x0_3, x0_4, x0_5, rfl⟩ : ∃ x0_0 x0_1 x0_2 x0_3 x0_4 x0_5, xs0 = [x0_0, x0_1, x0_2, x0_3, x0_4, x0_5] := by
    match xs0, hn0 with
    | [x0_0, x0_1, x0_2, x0_3, x0_4, x0_5], _ => exact ⟨_, _, _, _, _, _, rfl⟩
  have h0_0 : DataW.trod enc Try.prog W base spare held n0 22 (List.take (Try.prog.cellsOf 22) (List.drop 0 [c0_0, c0_1, c0_2, c0_3, c0_4, c0_5, c0_6, c0_7, c0_8, c0_9, c0_10, c0_11, c0_12, c0_13, c0_14, c0_15, c0_16, c0_17, c0_18, c0_19, c0_20, c0_21, c0_22, c0_23, c0_24, c0_25, c0_26, c0_27, c0_28, c0_29, c0_30])) = [x0_0, x0_1, x0_2, x0_3, x0_4, x0_5][0]? := hf0 0 _ rfl
  rw [show Try.prog.cellsOf 22 = 1 from by kernel_rfl] at h0_0
  replace h0_0 : DataW.trod enc Try.prog W base spare held n0 22 [c0_0] = some x0_0 := h0_0
  have h0_1 : DataW.trod enc Try.prog W base spare held n0 22 (List.take (Try.prog.cellsOf 22) (List.drop 1 [c0_0, c0_1, c0_2, c0_3, c0_4, c0_5, c0_6, c0_7, c0_8, c0_9, c0_10, c0_11, c0_12, c0_13, c0_14, c0_15, c0_16, c0_17, c0_18, c0_19, c0_20, c0_21, c0_22, c0_23, c0_24, c0_25, c0_26, c0_27, c0_28, c0_29, c0_30])) = [x0_0, x0_1, x0_2, x0_3, x0_4, x0_5][1]? := hf0 1 _ rfl
  rw [show Try.prog.cellsOf 22 = 1 from by kernel_rfl] at h0_1
  replace h0_1 : DataW.trod enc Try.prog W base spare held n0 22 [c0_1] = some x0_1 := h0_1
  have h0_2 : DataW.trod enc Try.prog W base spare held n0 22 (List.take (Try.prog.cellsOf 22) (List.drop 2 [c0_0, c0_1, c0_2, c0_3, c0_4, c0_5, c0_6, c0_7, c0_8, c0_9, c0_10, c0_11, c0_12, c0_13, c0_14, c0_15, c0_16, c0_17, c0_18, c0_19, c0_20, c0_21, c0_22, c0_23, c0_24, c0_25, c0_26, c0_27, c0_28, c0_29, c0_30])) = [x0_0, x0_1, x0_2, x0_3, x0_4, x0_5][2]? := hf0 2 _ rfl
  rw [show Try.prog.cellsOf 22 = 1 from by kernel_rfl] at h0_2
  replace h0_2 : DataW.trod enc Try.prog W base spare held n0 22 [c0_2] = some x0_2 := h0_2
  have h0_3 : DataW.trod enc Try.prog W base spare held n0 4 (List.take (Try.prog.cellsOf 4) (List.drop 3 [c0_0, c0_1, c0_2, c0_3, c0_4, c0_5, c0_6, c0_7, c0_8, c0_9, c0_10, c0_11, c0_12, c0_13, c0_14, c0_15, c0_16, c0_17, c0_18, c0_19, c0_20, c0_21, c0_22, c0_23, c0_24, c0_25, c0_26, c0_27, c0_28, c0_29, c0_30])) = [x0_0, x0_1, x0_2, x0_3, x0_4, x0_5][3]? := hf0 3 _ rfl
  rw [show Try.prog.cellsOf 4 = 1 from by kernel_rfl] at h0_3
  replace h0_3 : DataW.trod enc Try.prog W base spare held n0 4 [c0_3] = some x0_3 := h0_3
  have h0_4 : DataW.trod enc Try.prog W base spare held n0 31 (List.take (Try.prog.cellsOf 31) (List.drop 4 [c0_0, c0_1, c0_2, c0_3, c0_4, c0_5, c0_6, c0_7, c0_8, c0_9, c0_10, c0_11, c0_12, c0_13, c0_14, c0_15, c0_16, c0_17, c0_18, c0_19, c0_20, c0_21, c0_22, c0_23, c0_24, c0_25, c0_26, c0_27, c0_28, c0_29, c0_30])) = [x0_0, x0_1, x0_2, x0_3, x0_4, x0_5][4]? := hf0 4 _ rfl
  rw [show Try.prog.cellsOf 31 = 13 from by kernel_rfl] at h0_4
  replace h0_4 : DataW.trod enc Try.prog W base spare held n0 31 [c0_4, c0_5, c0_6, c0_7, c0_8, c0_9, c0_10, c0_11, c0_12, c0_13, c0_14, c0_15, c0_16] = some x0_4 := h0_4
  have h0_5 : DataW.trod enc Try.prog W base spare held n0 35 (List.take (Try.prog.cellsOf 35) (List.drop 17 [c0_0, c0_1, c0_2, c0_3, c0_4, c0_5, c0_6, c0_7, c0_8, c0_9, c0_10, c0_11, c0_12, c0_13, c0_14, c0_15, c0_16, c0_17, c0_18, c0_19, c0_20, c0_21, c0_22, c0_23, c0_24, c0_25, c0_26, c0_27, c0_28, c0_29, c0_30])) = [x0_0, x0_1, x0_2, x0_3, x0_4, x0_5][5]? := hf0 5 _ rfl
  rw [show Try.prog.cellsOf 35 = 14 from by kernel_rfl] at h0_5
  replace h0_5 : DataW.trod enc Try.prog W base spare held n0 35 [c0_17, c0_18, c0_19, c0_20, c0_21, c0_22, c0_23, c0_24, c0_25, c0_26, c0_27, c0_28, c0_29, c0_30] = some x0_5 := h0_5
  obtain ⟨a0, q0, z0, w0⟩ := DataW.trod_int Try.underlying22 h0_0
  obtain rfl := List.head_eq_of_cons_eq q0
  subst z0
  obtain ⟨a1, q1, z1, w1⟩ := DataW.trod_int Try.underlying22 h0_1
  obtain rfl := List.head_eq_of_cons_eq q1
  subst z1
  obtain ⟨a2, q2, z2, w2⟩ := DataW.trod_int Try.underlying22 h0_2
  obtain rfl := List.head_eq_of_cons_eq q2
  subst z2
  obtain ⟨a3, q3, z3⟩ := DataW.trod_bool Try.underlying4 h0_3
  obtain rfl := List.head_eq_of_cons_eq q3
  subst z3
  have hc1 : Try.prog.cellsOf 31 = 13 := by kernel_rfl
  obtain ⟨xs1, n1, _, hx1, hl1, hn1, hf1⟩ := DataW.trod_struct Try.underlying31 h0_4
  rw [hc1] at hl1
  obtain ⟨x1_0, x1_1, x1_2, x1_3, x1_4, x1_5, x1_6, x1_7, x1_8, x1_9, rfl⟩ : ∃ x1_0 x1_1 x1_2 x1_3 x1_4 x1_5 x1_6 x1_7 x1_8 x1_9, xs1 = [x1_0, x1_1, x1_2, x1_3, x1_4, x1_5, x1_6, x1_7, x1_8, x1_9] := by
    match xs1, hn1 with
    | [x1_0, x1_1, x1_2, x1_3, x1_4, x1_5, x1_6, x1_7, x1_8, x1_9], _ => exact ⟨_, _, _, _, _, _, _, _, _, _, rfl⟩
  have h1_0 : DataW.trod enc Try.prog W base spare held n1 3 (List.take (Try.prog.cellsOf 3) (List.drop 0 [c0_4, c0_5, c0_6, c0_7, c0_8, c0_9, c0_10, c0_11, c0_12, c0_13, c0_14, c0_15, c0_16])) = [x1_0, x1_1, x1_2, x1_3, x1_4, x1_5, x1_6, x1_7, x1_8, x1_9][0]? := hf1 0 _ rfl
  rw [show Try.prog.cellsOf 3 = 1 from by kernel_rfl] at h1_0
  replace h1_0 : DataW.trod enc Try.prog W base spare held n1 3 [c0_4] = some x1_0 := h1_0
  have h1_1 : DataW.trod enc Try.prog W base spare held n1 24 (List.take (Try.prog.cellsOf 24) (List.drop 1 [c0_4, c0_5, c0_6, c0_7, c0_8, c0_9, c0_10, c0_11, c0_12, c0_13, c0_14, c0_15, c0_16])) = [x1_0, x1_1, x1_2, x1_3, x1_4, x1_5, x1_6, x1_7, x1_8, x1_9][1]? := hf1 1 _ rfl
  rw [show Try.prog.cellsOf 24 = 2 from by kernel_rfl] at h1_1
  replace h1_1 : DataW.trod enc Try.prog W base spare held n1 24 [c0_5, c0_6] = some x1_1 := h1_1
  have h1_2 : DataW.trod enc Try.prog W base spare held n1 27 (List.take (Try.prog.cellsOf 27) (List.drop 3 [c0_4, c0_5, c0_6, c0_7, c0_8, c0_9, c0_10, c0_11, c0_12, c0_13, c0_14, c0_15, c0_16])) = [x1_0, x1_1, x1_2, x1_3, x1_4, x1_5, x1_6, x1_7, x1_8, x1_9][2]? := hf1 2 _ rfl
  rw [show Try.prog.cellsOf 27 = 2 from by kernel_rfl] at h1_2
  replace h1_2 : DataW.trod enc Try.prog W base spare held n1 27 [c0_7, c0_8] = some x1_2 := h1_2
  have h1_3 : DataW.trod enc Try.prog W base spare held n1 27 (List.take (Try.prog.cellsOf 27) (List.drop 5 [c0_4, c0_5, c0_6, c0_7, c0_8, c0_9, c0_10, c0_11, c0_12, c0_13, c0_14, c0_15, c0_16])) = [x1_0, x1_1, x1_2, x1_3, x1_4, x1_5, x1_6, x1_7, x1_8, x1_9][3]? := hf1 3 _ rfl
  rw [show Try.prog.cellsOf 27 = 2 from by kernel_rfl] at h1_3
  replace h1_3 : DataW.trod enc Try.prog W base spare held n1 27 [c0_9, c0_10] = some x1_3 := h1_3
  have h1_4 : DataW.trod enc Try.prog W base spare held n1 9 (List.take (Try.prog.cellsOf 9) (List.drop 7 [c0_4, c0_5, c0_6, c0_7, c0_8, c0_9, c0_10, c0_11, c0_12, c0_13, c0_14, c0_15, c0_16])) = [x1_0, x1_1, x1_2, x1_3, x1_4, x1_5, x1_6, x1_7, x1_8, x1_9][4]? := hf1 4 _ rfl
  rw [show Try.prog.cellsOf 9 = 1 from by kernel_rfl] at h1_4
  replace h1_4 : DataW.trod enc Try.prog W base spare held n1 9 [c0_11] = some x1_4 := h1_4
  have h1_5 : DataW.trod enc Try.prog W base spare held n1 9 (List.take (Try.prog.cellsOf 9) (List.drop 8 [c0_4, c0_5, c0_6, c0_7, c0_8, c0_9, c0_10, c0_11, c0_12, c0_13, c0_14, c0_15, c0_16])) = [x1_0, x1_1, x1_2, x1_3, x1_4, x1_5, x1_6, x1_7, x1_8, x1_9][5]? := hf1 5 _ rfl
  rw [show Try.prog.cellsOf 9 = 1 from by kernel_rfl] at h1_5
  replace h1_5 : DataW.trod enc Try.prog W base spare held n1 9 [c0_12] = some x1_5 := h1_5
  have h1_6 : DataW.trod enc Try.prog W base spare held n1 3 (List.take (Try.prog.cellsOf 3) (List.drop 9 [c0_4, c0_5, c0_6, c0_7, c0_8, c0_9, c0_10, c0_11, c0_12, c0_13, c0_14, c0_15, c0_16])) = [x1_0, x1_1, x1_2, x1_3, x1_4, x1_5, x1_6, x1_7, x1_8, x1_9][6]? := hf1 6 _ rfl
  rw [show Try.prog.cellsOf 3 = 1 from by kernel_rfl] at h1_6
  replace h1_6 : DataW.trod enc Try.prog W base spare held n1 3 [c0_13] = some x1_6 := h1_6
  have h1_7 : DataW.trod enc Try.prog W base spare held n1 5 (List.take (Try.prog.cellsOf 5) (List.drop 10 [c0_4, c0_5, c0_6, c0_7, c0_8, c0_9, c0_10, c0_11, c0_12, c0_13, c0_14, c0_15, c0_16])) = [x1_0, x1_1, x1_2, x1_3, x1_4, x1_5, x1_6, x1_7, x1_8, x1_9][7]? := hf1 7 _ rfl
  rw [show Try.prog.cellsOf 5 = 1 from by kernel_rfl] at h1_7
  replace h1_7 : DataW.trod enc Try.prog W base spare held n1 5 [c0_14] = some x1_7 := h1_7
  have h1_8 : DataW.trod enc Try.prog W base spare held n1 28 (List.take (Try.prog.cellsOf 28) (List.drop 11 [c0_4, c0_5, c0_6, c0_7, c0_8, c0_9, c0_10, c0_11, c0_12, c0_13, c0_14, c0_15, c0_16])) = [x1_0, x1_1, x1_2, x1_3, x1_4, x1_5, x1_6, x1_7, x1_8, x1_9][8]? := hf1 8 _ rfl
  rw [show Try.prog.cellsOf 28 = 1 from by kernel_rfl] at h1_8
  replace h1_8 : DataW.trod enc Try.prog W base spare held n1 28 [c0_15] = some x1_8 := h1_8
  have h1_9 : DataW.trod enc Try.prog W base spare held n1 29 (List.take (Try.prog.cellsOf 29) (List.drop 12 [c0_4, c0_5, c0_6, c0_7, c0_8, c0_9, c0_10, c0_11, c0_12, c0_13, c0_14, c0_15, c0_16])) = [x1_0, x1_1, x1_2, x1_3, x1_4, x1_5, x1_6, x1_7, x1_8, x1_9][9]? := hf1 9 _ rfl
  rw [show Try.prog.cellsOf 29 = 1 from by kernel_rfl] at h1_9
  replace h1_9 : DataW.trod enc Try.prog W base spare held n1 29 [c0_16] = some x1_9 := h1_9
  obtain ⟨a4, q4, z4, w4⟩ := DataW.trod_int Try.underlying3 h1_0
  obtain rfl := List.head_eq_of_cons_eq q4
  subst z4
  have hc2 : Try.prog.cellsOf 24 = 2 := by kernel_rfl
  obtain ⟨xs2, n2, _, hx2, hl2, hn2, hf2⟩ := DataW.trod_struct Try.underlying24 h1_1
  rw [hc2] at hl2
  obtain ⟨x2_0, x2_1, rfl⟩ : ∃ x2_0 x2_1, xs2 = [x2_0, x2_1] := by
    match xs2, hn2 with
    | [x2_0, x2_1], _ => exact ⟨_, _, rfl⟩
  have h2_0 : DataW.trod enc Try.prog W base spare held n2 22 (List.take (Try.prog.cellsOf 22) (List.drop 0 [c0_5, c0_6])) = [x2_0, x2_1][0]? := hf2 0 _ rfl
  rw [show Try.prog.cellsOf 22 = 1 from by kernel_rfl] at h2_0
  replace h2_0 : DataW.trod enc Try.prog W base spare held n2 22 [c0_5] = some x2_0 := h2_0
  have h2_1 : DataW.trod enc Try.prog W base spare held n2 22 (List.take (Try.prog.cellsOf 22) (List.drop 1 [c0_5, c0_6])) = [x2_0, x2_1][1]? := hf2 1 _ rfl
  rw [show Try.prog.cellsOf 22 = 1 from by kernel_rfl] at h2_1
  replace h2_1 : DataW.trod enc Try.prog W base spare held n2 22 [c0_6] = some x2_1 := h2_1
  obtain ⟨a5, q5, z5, w5⟩ := DataW.trod_int Try.underlying22 h2_0
  obtain rfl := List.head_eq_of_cons_eq q5
  subst z5
  obtain ⟨a6, q6, z6, w6⟩ := DataW.trod_int Try.underlying22 h2_1
  obtain rfl := List.head_eq_of_cons_eq q6
  subst z6
  have hc3 : Try.prog.cellsOf 27 = 2 := by kernel_rfl
  obtain ⟨xs3, n3, _, hx3, hl3, hn3, hf3⟩ := DataW.trod_struct Try.underlying27 h1_2
  rw [hc3] at hl3
  obtain ⟨x3_0, x3_1, rfl⟩ : ∃ x3_0 x3_1, xs3 = [x3_0, x3_1] := by
    match xs3, hn3 with
    | [x3_0, x3_1], _ => exact ⟨_, _, rfl⟩
  have h3_0 : DataW.trod enc Try.prog W base spare held n3 25 (List.take (Try.prog.cellsOf 25) (List.drop 0 [c0_7, c0_8])) = [x3_0, x3_1][0]? := hf3 0 _ rfl
  rw [show Try.prog.cellsOf 25 = 1 from by kernel_rfl] at h3_0
  replace h3_0 : DataW.trod enc Try.prog W base spare held n3 25 [c0_7] = some x3_0 := h3_0
  have h3_1 : DataW.trod enc Try.prog W base spare held n3 22 (List.take (Try.prog.cellsOf 22) (List.drop 1 [c0_7, c0_8])) = [x3_0, x3_1][1]? := hf3 1 _ rfl
  rw [show Try.prog.cellsOf 22 = 1 from by kernel_rfl] at h3_1
  replace h3_1 : DataW.trod enc Try.prog W base spare held n3 22 [c0_8] = some x3_1 := h3_1
  obtain ⟨a7, q7, z7, w7⟩ := DataW.trod_int Try.underlying25 h3_0
  obtain rfl := List.head_eq_of_cons_eq q7
  subst z7
  obtain ⟨a8, q8, z8, w8⟩ := DataW.trod_int Try.underlying22 h3_1
  obtain rfl := List.head_eq_of_cons_eq q8
  subst z8
  have hc4 : Try.prog.cellsOf 27 = 2 := by kernel_rfl
  obtain ⟨xs4, n4, _, hx4, hl4, hn4, hf4⟩ := DataW.trod_struct Try.underlying27 h1_3
  rw [hc4] at hl4
  obtain ⟨x4_0, x4_1, rfl⟩ : ∃ x4_0 x4_1, xs4 = [x4_0, x4_1] := by
    match xs4, hn4 with
    | [x4_0, x4_1], _ => exact ⟨_, _, rfl⟩
  have h4_0 : DataW.trod enc Try.prog W base spare held n4 25 (List.take (Try.prog.cellsOf 25) (List.drop 0 [c0_9, c0_10])) = [x4_0, x4_1][0]? := hf4 0 _ rfl
  rw [show Try.prog.cellsOf 25 = 1 from by kernel_rfl] at h4_0
  replace h4_0 : DataW.trod enc Try.prog W base spare held n4 25 [c0_9] = some x4_0 := h4_0
  have h4_1 : DataW.trod enc Try.prog W base spare held n4 22 (List.take (Try.prog.cellsOf 22) (List.drop 1 [c0_9, c0_10])) = [x4_0, x4_1][1]? := hf4 1 _ rfl
  rw [show Try.prog.cellsOf 22 = 1 from by kernel_rfl] at h4_1
  replace h4_1 : DataW.trod enc Try.prog W base spare held n4 22 [c0_10] = some x4_1 := h4_1
  obtain ⟨a9, q9, z9, w9⟩ := DataW.trod_int Try.underlying25 h4_0
  obtain rfl := List.head_eq_of_cons_eq q9
  subst z9
  obtain ⟨a10, q10, z10, w10⟩ := DataW.trod_int Try.underlying22 h4_1
  obtain rfl := List.head_eq_of_cons_eq q10
  subst z10
  obtain ⟨a11, q11, z11, w11⟩ := DataW.trod_string Try.underlying9 h1_4
  obtain rfl := List.head_eq_of_cons_eq q11
  subst z11
  obtain ⟨a12, q12, z12, w12⟩ := DataW.trod_string Try.underlying9 h1_5
  obtain rfl := List.head_eq_of_cons_eq q12
  subst z12
  obtain ⟨a13, q13, z13, w13⟩ := DataW.trod_int Try.underlying3 h1_6
  obtain rfl := List.head_eq_of_cons_eq q13
  subst z13
  obtain ⟨a14, q14, z14, w14⟩ := DataW.trod_int Try.underlying5 h1_7
  obtain rfl := List.head_eq_of_cons_eq q14
  subst z14
  obtain ⟨A15, g15, a15, q15, w15, r15, z15⟩ := open_kd (k := k66) (Q := Q66) Try.underlying28 (by kernel_rfl) open_S66 h1_8
  obtain rfl := List.head_eq_of_cons_eq q15
  obtain ⟨A16, g16, a16, q16, w16, r16, z16⟩ := open_kd (k := k24) (Q := Q24) Try.underlying29 (by kernel_rfl) open_S24 h1_9
  obtain rfl := List.head_eq_of_cons_eq q16
  have hc5 : Try.prog.cellsOf 35 = 14 := by kernel_rfl
  obtain ⟨xs5, n5, _, hx5, hl5, hn5, hf5⟩ := DataW.trod_struct Try.underlying35 h0_5
  rw [hc5] at hl5
  obtain ⟨x5_0, x5_1, x5_2, x5_3, x5_4, x5_5, x5_6, x5_7, x5_8, x5_9, rfl⟩ : ∃ x5_0 x5_1 x5_2 x5_3 x5_4 x5_5 x5_6 x5_7 x5_8 x5_9, xs5 = [x5_0, x5_1, x5_2, x5_3, x5_4, x5_5, x5_6, x5_7, x5_8, x5_9] := by
    match xs5, hn5 with
    | [x5_0, x5_1, x5_2, x5_3, x5_4, x5_5, x5_6, x5_7, x5_8, x5_9], _ => exact ⟨_, _, _, _, _, _, _, _, _, _, rfl⟩
  have h5_0 : DataW.trod enc Try.prog W base spare held n5 3 (List.take (Try.prog.cellsOf 3) (List.drop 0 [c0_17, c0_18, c0_19, c0_20, c0_21, c0_22, c0_23, c0_24, c0_25, c0_26, c0_27, c0_28, c0_29, c0_30])) = [x5_0, x5_1, x5_2, x5_3, x5_4, x5_5, x5_6, x5_7, x5_8, x5_9][0]? := hf5 0 _ rfl
  rw [show Try.prog.cellsOf 3 = 1 from by kernel_rfl] at h5_0
  replace h5_0 : DataW.trod enc Try.prog W base spare held n5 3 [c0_17] = some x5_0 := h5_0
  have h5_1 : DataW.trod enc Try.prog W base spare held n5 32 (List.take (Try.prog.cellsOf 32) (List.drop 1 [c0_17, c0_18, c0_19, c0_20, c0_21, c0_22, c0_23, c0_24, c0_25, c0_26, c0_27, c0_28, c0_29, c0_30])) = [x5_0, x5_1, x5_2, x5_3, x5_4, x5_5, x5_6, x5_7, x5_8, x5_9][1]? := hf5 1 _ rfl
  rw [show Try.prog.cellsOf 32 = 1 from by kernel_rfl] at h5_1
  replace h5_1 : DataW.trod enc Try.prog W base spare held n5 32 [c0_18] = some x5_1 := h5_1
  have h5_2 : DataW.trod enc Try.prog W base spare held n5 4 (List.take (Try.prog.cellsOf 4) (List.drop 2 [c0_17, c0_18, c0_19, c0_20, c0_21, c0_22, c0_23, c0_24, c0_25, c0_26, c0_27, c0_28, c0_29, c0_30])) = [x5_0, x5_1, x5_2, x5_3, x5_4, x5_5, x5_6, x5_7, x5_8, x5_9][2]? := hf5 2 _ rfl
  rw [show Try.prog.cellsOf 4 = 1 from by kernel_rfl] at h5_2
  replace h5_2 : DataW.trod enc Try.prog W base spare held n5 4 [c0_19] = some x5_2 := h5_2
  have h5_3 : DataW.trod enc Try.prog W base spare held n5 9 (List.take (Try.prog.cellsOf 9) (List.drop 3 [c0_17, c0_18, c0_19, c0_20, c0_21, c0_22, c0_23, c0_24, c0_25, c0_26, c0_27, c0_28, c0_29, c0_30])) = [x5_0, x5_1, x5_2, x5_3, x5_4, x5_5, x5_6, x5_7, x5_8, x5_9][3]? := hf5 3 _ rfl
  rw [show Try.prog.cellsOf 9 = 1 from by kernel_rfl] at h5_3
  replace h5_3 : DataW.trod enc Try.prog W base spare held n5 9 [c0_20] = some x5_3 := h5_3
  have h5_4 : DataW.trod enc Try.prog W base spare held n5 33 (List.take (Try.prog.cellsOf 33) (List.drop 4 [c0_17, c0_18, c0_19, c0_20, c0_21, c0_22, c0_23, c0_24, c0_25, c0_26, c0_27, c0_28, c0_29, c0_30])) = [x5_0, x5_1, x5_2, x5_3, x5_4, x5_5, x5_6, x5_7, x5_8, x5_9][4]? := hf5 4 _ rfl
  rw [show Try.prog.cellsOf 33 = 1 from by kernel_rfl] at h5_4
  replace h5_4 : DataW.trod enc Try.prog W base spare held n5 33 [c0_21] = some x5_4 := h5_4
  have h5_5 : DataW.trod enc Try.prog W base spare held n5 24 (List.take (Try.prog.cellsOf 24) (List.drop 5 [c0_17, c0_18, c0_19, c0_20, c0_21, c0_22, c0_23, c0_24, c0_25, c0_26, c0_27, c0_28, c0_29, c0_30])) = [x5_0, x5_1, x5_2, x5_3, x5_4, x5_5, x5_6, x5_7, x5_8, x5_9][5]? := hf5 5 _ rfl
  rw [show Try.prog.cellsOf 24 = 2 from by kernel_rfl] at h5_5
  replace h5_5 : DataW.trod enc Try.prog W base spare held n5 24 [c0_22, c0_23] = some x5_5 := h5_5
  have h5_6 : DataW.trod enc Try.prog W base spare held n5 27 (List.take (Try.prog.cellsOf 27) (List.drop 7 [c0_17, c0_18, c0_19, c0_20, c0_21, c0_22, c0_23, c0_24, c0_25, c0_26, c0_27, c0_28, c0_29, c0_30])) = [x5_0, x5_1, x5_2, x5_3, x5_4, x5_5, x5_6, x5_7, x5_8, x5_9][6]? := hf5 6 _ rfl
  rw [show Try.prog.cellsOf 27 = 2 from by kernel_rfl] at h5_6
  replace h5_6 : DataW.trod enc Try.prog W base spare held n5 27 [c0_24, c0_25] = some x5_6 := h5_6
  have h5_7 : DataW.trod enc Try.prog W base spare held n5 27 (List.take (Try.prog.cellsOf 27) (List.drop 9 [c0_17, c0_18, c0_19, c0_20, c0_21, c0_22, c0_23, c0_24, c0_25, c0_26, c0_27, c0_28, c0_29, c0_30])) = [x5_0, x5_1, x5_2, x5_3, x5_4, x5_5, x5_6, x5_7, x5_8, x5_9][7]? := hf5 7 _ rfl
  rw [show Try.prog.cellsOf 27 = 2 from by kernel_rfl] at h5_7
  replace h5_7 : DataW.trod enc Try.prog W base spare held n5 27 [c0_26, c0_27] = some x5_7 := h5_7
  have h5_8 : DataW.trod enc Try.prog W base spare held n5 9 (List.take (Try.prog.cellsOf 9) (List.drop 11 [c0_17, c0_18, c0_19, c0_20, c0_21, c0_22, c0_23, c0_24, c0_25, c0_26, c0_27, c0_28, c0_29, c0_30])) = [x5_0, x5_1, x5_2, x5_3, x5_4, x5_5, x5_6, x5_7, x5_8, x5_9][8]? := hf5 8 _ rfl
  rw [show Try.prog.cellsOf 9 = 1 from by kernel_rfl] at h5_8
  replace h5_8 : DataW.trod enc Try.prog W base spare held n5 9 [c0_28] = some x5_8 := h5_8
  have h5_9 : DataW.trod enc Try.prog W base spare held n5 27 (List.take (Try.prog.cellsOf 27) (List.drop 12 [c0_17, c0_18, c0_19, c0_20, c0_21, c0_22, c0_23, c0_24, c0_25, c0_26, c0_27, c0_28, c0_29, c0_30])) = [x5_0, x5_1, x5_2, x5_3, x5_4, x5_5, x5_6, x5_7, x5_8, x5_9][9]? := hf5 9 _ rfl
  rw [show Try.prog.cellsOf 27 = 2 from by kernel_rfl] at h5_9
  replace h5_9 : DataW.trod enc Try.prog W base spare held n5 27 [c0_29, c0_30] = some x5_9 := h5_9
  obtain ⟨a17, q17, z17, w17⟩ := DataW.trod_int Try.underlying3 h5_0
  obtain rfl := List.head_eq_of_cons_eq q17
  subst z17
  obtain ⟨a18, q18, z18, w18⟩ := DataW.trod_int Try.underlying32 h5_1
  obtain rfl := List.head_eq_of_cons_eq q18
  subst z18
  obtain ⟨a19, q19, z19⟩ := DataW.trod_bool Try.underlying4 h5_2
  obtain rfl := List.head_eq_of_cons_eq q19
  subst z19
  obtain ⟨a20, q20, z20, w20⟩ := DataW.trod_string Try.underlying9 h5_3
  obtain rfl := List.head_eq_of_cons_eq q20
  subst z20
  obtain ⟨A21, g21, a21, q21, w21, r21, z21⟩ := open_kd (k := k68) (Q := Q68) Try.underlying33 (by kernel_rfl) open_S68 h5_4
  obtain rfl := List.head_eq_of_cons_eq q21
  have hc6 : Try.prog.cellsOf 24 = 2 := by kernel_rfl
  obtain ⟨xs6, n6, _, hx6, hl6, hn6, hf6⟩ := DataW.trod_struct Try.underlying24 h5_5
  rw [hc6] at hl6
  obtain ⟨x6_0, x6_1, rfl⟩ : ∃ x6_0 x6_1, xs6 = [x6_0, x6_1] := by
    match xs6, hn6 with
    | [x6_0, x6_1], _ => exact ⟨_, _, rfl⟩
  have h6_0 : DataW.trod enc Try.prog W base spare held n6 22 (List.take (Try.prog.cellsOf 22) (List.drop 0 [c0_22, c0_23])) = [x6_0, x6_1][0]? := hf6 0 _ rfl
  rw [show Try.prog.cellsOf 22 = 1 from by kernel_rfl] at h6_0
  replace h6_0 : DataW.trod enc Try.prog W base spare held n6 22 [c0_22] = some x6_0 := h6_0
  have h6_1 : DataW.trod enc Try.prog W base spare held n6 22 (List.take (Try.prog.cellsOf 22) (List.drop 1 [c0_22, c0_23])) = [x6_0, x6_1][1]? := hf6 1 _ rfl
  rw [show Try.prog.cellsOf 22 = 1 from by kernel_rfl] at h6_1
  replace h6_1 : DataW.trod enc Try.prog W base spare held n6 22 [c0_23] = some x6_1 := h6_1
  obtain ⟨a22, q22, z22, w22⟩ := DataW.trod_int Try.underlying22 h6_0
  obtain rfl := List.head_eq_of_cons_eq q22
  subst z22
  obtain ⟨a23, q23, z23, w23⟩ := DataW.trod_int Try.underlying22 h6_1
  obtain rfl := List.head_eq_of_cons_eq q23
  subst z23
  have hc7 : Try.prog.cellsOf 27 = 2 := by kernel_rfl
  obtain ⟨xs7, n7, _, hx7, hl7, hn7, hf7⟩ := DataW.trod_struct Try.underlying27 h5_6
  rw [hc7] at hl7
  obtain ⟨x7_0, x7_1, rfl⟩ : ∃ x7_0 x7_1, xs7 = [x7_0, x7_1] := by
    match xs7, hn7 with
    | [x7_0, x7_1], _ => exact ⟨_, _, rfl⟩
  have h7_0 : DataW.trod enc Try.prog W base spare held n7 25 (List.take (Try.prog.cellsOf 25) (List.drop 0 [c0_24, c0_25])) = [x7_0, x7_1][0]? := hf7 0 _ rfl
  rw [show Try.prog.cellsOf 25 = 1 from by kernel_rfl] at h7_0
  replace h7_0 : DataW.trod enc Try.prog W base spare held n7 25 [c0_24] = some x7_0 := h7_0
  have h7_1 : DataW.trod enc Try.prog W base spare held n7 22 (List.take (Try.prog.cellsOf 22) (List.drop 1 [c0_24, c0_25])) = [x7_0, x7_1][1]? := hf7 1 _ rfl
  rw [show Try.prog.cellsOf 22 = 1 from by kernel_rfl] at h7_1
  replace h7_1 : DataW.trod enc Try.prog W base spare held n7 22 [c0_25] = some x7_1 := h7_1
  obtain ⟨a24, q24, z24, w24⟩ := DataW.trod_int Try.underlying25 h7_0
  obtain rfl := List.head_eq_of_cons_eq q24
  subst z24
  obtain ⟨a25, q25, z25, w25⟩ := DataW.trod_int Try.underlying22 h7_1
  obtain rfl := List.head_eq_of_cons_eq q25
  subst z25
  have hc8 : Try.prog.cellsOf 27 = 2 := by kernel_rfl
  obtain ⟨xs8, n8, _, hx8, hl8, hn8, hf8⟩ := DataW.trod_struct Try.underlying27 h5_7
  rw [hc8] at hl8
  obtain ⟨x8_0, x8_1, rfl⟩ : ∃ x8_0 x8_1, xs8 = [x8_0, x8_1] := by
    match xs8, hn8 with
    | [x8_0, x8_1], _ => exact ⟨_, _, rfl⟩
  have h8_0 : DataW.trod enc Try.prog W base spare held n8 25 (List.take (Try.prog.cellsOf 25) (List.drop 0 [c0_26, c0_27])) = [x8_0, x8_1][0]? := hf8 0 _ rfl
  rw [show Try.prog.cellsOf 25 = 1 from by kernel_rfl] at h8_0
  replace h8_0 : DataW.trod enc Try.prog W base spare held n8 25 [c0_26] = some x8_0 := h8_0
  have h8_1 : DataW.trod enc Try.prog W base spare held n8 22 (List.take (Try.prog.cellsOf 22) (List.drop 1 [c0_26, c0_27])) = [x8_0, x8_1][1]? := hf8 1 _ rfl
  rw [show Try.prog.cellsOf 22 = 1 from by kernel_rfl] at h8_1
  replace h8_1 : DataW.trod enc Try.prog W base spare held n8 22 [c0_27] = some x8_1 := h8_1
  obtain ⟨a26, q26, z26, w26⟩ := DataW.trod_int Try.underlying25 h8_0
  obtain rfl := List.head_eq_of_cons_eq q26
  subst z26
  obtain ⟨a27, q27, z27, w27⟩ := DataW.trod_int Try.underlying22 h8_1
  obtain rfl := List.head_eq_of_cons_eq q27
  subst z27
  obtain ⟨a28, q28, z28, w28⟩ := DataW.trod_string Try.underlying9 h5_8
  obtain rfl := List.head_eq_of_cons_eq q28
  subst z28
  have hc9 : Try.prog.cellsOf 27 = 2 := by kernel_rfl
  obtain ⟨xs9, n9, _, hx9, hl9, hn9, hf9⟩ := DataW.trod_struct Try.underlying27 h5_9
  rw [hc9] at hl9
  obtain ⟨x9_0, x9_1, rfl⟩ : ∃ x9_0 x9_1, xs9 = [x9_0, x9_1] := by
    match xs9, hn9 with
    | [x9_0, x9_1], _ => exact ⟨_, _, rfl⟩
  have h9_0 : DataW.trod enc Try.prog W base spare held n9 25 (List.take (Try.prog.cellsOf 25) (List.drop 0 [c0_29, c0_30])) = [x9_0, x9_1][0]? := hf9 0 _ rfl
  rw [show Try.prog.cellsOf 25 = 1 from by kernel_rfl] at h9_0
  replace h9_0 : DataW.trod enc Try.prog W base spare held n9 25 [c0_29] = some x9_0 := h9_0
  have h9_1 : DataW.trod enc Try.prog W base spare held n9 22 (List.take (Try.prog.cellsOf 22) (List.drop 1 [c0_29, c0_30])) = [x9_0, x9_1][1]? := hf9 1 _ rfl
  rw [show Try.prog.cellsOf 22 = 1 from by kernel_rfl] at h9_1
  replace h9_1 : DataW.trod enc Try.prog W base spare held n9 22 [c0_30] = some x9_1 := h9_1
  obtain ⟨a29, q29, z29, w29⟩ := DataW.trod_int Try.underlying25 h9_0
  obtain rfl := List.head_eq_of_cons_eq q29
  subst z29
  obtain ⟨a30, q30, z30, w30⟩ := DataW.trod_int Try.underlying22 h9_1
  obtain rfl := List.head_eq_of_cons_eq q30
  subst z30
  have hsk : ∀ x ∈ a16, U32 x.f0 ∧ U32 x.f1 := by
    intro x hx
    rcases z16 with ⟨_, rfl⟩ | ⟨ds, sp, _, hl, hq⟩
    · simp at hx
    · obtain ⟨i, hi, rfl⟩ := List.getElem_of_mem hx
      obtain ⟨_, q0, q1⟩ := hq i hi (by omega)
      exact ⟨b32 q0, b32 q1⟩
  exact ⟨⟨a0, a1, a2, a3, ⟨a4, a5, a6, a7, a8, a9, a10, a11, a12, a13, a14, a15, a16⟩, ⟨a17, a18, a19, a20, a21, a22, a23, a24, a25, a26, a27, a28, a29, a30⟩⟩, A15, g15, A16, g16, A21, g21, rfl, ⟨r15, w15, r16, w16, r21, w21⟩, fun h1 h2 h3 => ⟨b32 w0, b32 w1, b32 w2, ⟨Go.bounds_i64 w4, b32 w5, b32 w6, b64 w7, b32 w8, b64 w9, b32 w10, Go.bounds_i64 w13, b8 w14, h1, h2, hsk⟩, ⟨Go.bounds_i64 w17, Go.bounds_i64 w18, h3, b32 w22, b32 w23, b64 w24, b32 w25, b64 w26, b32 w27, b64 w29, b32 w30⟩⟩⟩
theorem letter_open {H : Type} {enc : TypeId × Value → H} (W : World) (v0 : Value) (d0 : DataW H) (p0 : List MemPlace)
    (h0 : DataW.Trod enc Try.prog W 0 (fun _ => true) true 37 v0 d0 p0) {base : Nat} (u0 : Value.okWide Try.prog W .any base 37 v0) :
    ∃ (l : Lt) (A1 : Option Addr) (c1 : Nat) (A2 : Option Addr) (c2 : Nat) (A3 : Option Addr) (c3 : Nat), v0 = LtV l A1 c1 A2 c2 A3 c3 ∧ LtIn W l A1 c1 A2 c2 A3 c3 ∧ (l.q.ws.length ≤ 9223372036854775807 → l.q.sk.length ≤ 9223372036854775807 → l.r.ps.length ≤ 9223372036854775807 → LOk l) := by
  obtain ⟨cs, rfl, hcs⟩ := WideShapes.okWide_struct Try.underlying37 u0
  obtain ⟨fuel, hf⟩ := h0
  obtain ⟨l, A1, c1, A2, c2, A3, c3, e, h1, h2⟩ := open_S37 fuel _ _ hf
  refine ⟨l, A1, c1, A2, c2, A3, c3, ?_, h1, h2⟩
  unfold LtV
  congr 1
  have e2 : cs.toList = _ := e
  rw [← Array.toArray_toList (xs := cs), e2]
end Go.Proofs.Ytjfokbkfniilhaa

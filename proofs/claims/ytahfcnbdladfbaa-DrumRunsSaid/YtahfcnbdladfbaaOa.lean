/- An act, opened: what a list of acts reads as. Conditions: those that each theorem names. -/
import Derived.Test.YtahfcnbdladfbaaWWords
import Derived.Test.YtahfcnbdladfbaaOp
import Derived.Test.YtahfcnbdladfbaaProg
import Derived.KernelRfl
set_option linter.unusedVariables false
set_option linter.unusedSimpArgs false
namespace Go.Proofs.Ytahfcnbdladfbaa
open Go.RowKit Go.Deep Go.Proofs.YtahfcnbdladfbaaW.PrintWords

structure S36 where
  f0 : Int
  f1 : Int
  f2 : Int
  f3 : ByteArray
  f4 : List Int
def z36 : S36 := ⟨0, 0, 0, ⟨#[]⟩, []⟩
def k36 : Kd S36 := Kd.iso (Kd.pair (Kd.int .i64) (Kd.pair (Kd.int .i64) (Kd.pair (Kd.int .i64) (Kd.pair Kd.string (Kd.slice 3 (Kd.int .i64)))))) (fun x : S36 => (x.f0, x.f1, x.f2, x.f3, x.f4))
theorem k36_open {w : World} {x : S36} {cs : List Value} (h : k36.K w x cs) : ∃ A c, x.f4.length ≤ c ∧ (Kd.int .i64).C w A x.f4.length x.f4 ∧ cs = [.int .i64 x.f0, .int .i64 x.f1, .int .i64 x.f2, .string x.f3, .slice A x.f4.length c] := by
  obtain ⟨_, _, rfl, rfl, ⟨_, _, rfl, rfl, ⟨_, _, rfl, rfl, ⟨_, _, rfl, rfl, ⟨A, c, rfl, hl, hC⟩⟩⟩⟩⟩ := h
  exact ⟨A, c, hl, hC, rfl⟩
theorem k36_mk (w : World) (x : S36) (A : Option Addr) (c : Nat) (hl : x.f4.length ≤ c) (hC : (Kd.int .i64).C w A x.f4.length x.f4) : k36.K w x [.int .i64 x.f0, .int .i64 x.f1, .int .i64 x.f2, .string x.f3, .slice A x.f4.length c] :=
  ⟨[.int .i64 x.f0], [.int .i64 x.f1, .int .i64 x.f2, .string x.f3, .slice A x.f4.length c], rfl, rfl, ⟨[.int .i64 x.f1], [.int .i64 x.f2, .string x.f3, .slice A x.f4.length c], rfl, rfl, ⟨[.int .i64 x.f2], [.string x.f3, .slice A x.f4.length c], rfl, rfl, ⟨[.string x.f3], [.slice A x.f4.length c], rfl, rfl, ⟨A, c, rfl, hl, hC⟩⟩⟩⟩⟩
def rd_T36 (xs : List S36) (i : Int) : S36 := xs.getD i.toNat z36
theorem ints_of_C {w : World} {A : Option Addr} {n : Nat} {xs : List Int} (h : (Kd.int .i64).C w A n xs) : ReadsInt w .i64 A n xs :=
  readsInt_of.2 (Kd.reads_of_C (enc := Value.int .i64) (d := (0 : Int)) (h1 := fun _ => rfl) h)
theorem at_T36 {w : World} {A : Option Addr} {n : Nat} {xs : List S36} (h : Kd.C k36 w A n xs) (i : Int) (h0 : 0 ≤ i) (h1 : i < n) : ∃ ad B c, A = some ad ∧ w.cell? (ad.add (i.toNat * 5)) = some (.int .i64 (rd_T36 xs i).f0) ∧ w.cell? ⟨(ad.add (i.toNat * 5)).block, (ad.add (i.toNat * 5)).off + 1, none⟩ = some (.int .i64 (rd_T36 xs i).f1) ∧
    w.cell? ⟨(ad.add (i.toNat * 5)).block, (ad.add (i.toNat * 5)).off + 2, none⟩ = some (.int .i64 (rd_T36 xs i).f2) ∧ w.cell? ⟨(ad.add (i.toNat * 5)).block, (ad.add (i.toNat * 5)).off + 3, none⟩ = some (.string (rd_T36 xs i).f3) ∧
    w.cell? ⟨(ad.add (i.toNat * 5)).block, (ad.add (i.toNat * 5)).off + 4, none⟩ = some (.slice B (rd_T36 xs i).f4.length c) ∧ (rd_T36 xs i).f4.length ≤ c ∧ ReadsInt w .i64 B (rd_T36 xs i).f4.length (rd_T36 xs i).f4 := by
  obtain ⟨ad, c, e, _, hK, hc0⟩ := Kd.C_get h z36 i h0 h1
  have hc : ∀ j u, c[j]? = some u → w.cell? (ad.add (i.toNat * 5 + j)) = some u := hc0
  obtain ⟨B, cap, hl, hC, rfl⟩ := k36_open hK
  exact ⟨ad, B, cap, e, hc 0 _ rfl, by rw [← add_field _ _ 1 (by omega)]; exact hc 1 _ rfl, by rw [← add_field _ _ 2 (by omega)]; exact hc 2 _ rfl, by rw [← add_field _ _ 3 (by omega)]; exact hc 3 _ rfl, by rw [← add_field _ _ 4 (by omega)]; exact hc 4 _ rfl, hl, ints_of_C hC⟩
def QInt {H : Type} (k : IntKind) (n : Int) (d : DataW H) : Prop := d = .lit (.int k n) ∧ (Lit.int k n).wf = true
theorem open_int' {H : Type} {enc : TypeId × Value → H} {P : Program} {W : World} {base : Nat} {spare : Nat → Bool} {held : Bool} {k : IntKind} {e : TypeId} (ht : P.underlying e = some (.int k)) :
    ∀ n cs x, DataW.trod enc P W base spare held n e cs = some x → ∃ a, (Kd.int k).K W a cs ∧ QInt k a x.1 := by
  intro n cs x h
  obtain ⟨a, q, z, wf⟩ := DataW.trod_int ht h
  subst z
  exact ⟨a, q, rfl, wf⟩
def Q36 {H : Type} (a : S36) (d : DataW H) : Prop := ∃ e4 : DataW H, d = .agg [.lit (.int .i64 a.f0), .lit (.int .i64 a.f1), .lit (.int .i64 a.f2), .lit (.string a.f3.data.toList), e4] ∧ (Lit.int .i64 a.f0).wf = true ∧ (Lit.int .i64 a.f1).wf = true ∧ (Lit.int .i64 a.f2).wf = true ∧ a.f3.size ≤ maxLen ∧ QSlice (QInt .i64) a.f4 e4
theorem open_S36 {H : Type} {enc : TypeId × Value → H} {W : World} {base : Nat} {spare : Nat → Bool} {held : Bool} (n : Nat) (cs : List Value) (x : DataW H × List MemPlace) (h : DataW.trod enc Try.prog W base spare held n 36 cs = some x) : ∃ a : S36, k36.K W a cs ∧ Q36 a x.1 := by
  have hc0 : Try.prog.cellsOf 36 = 5 := by kernel_rfl
  obtain ⟨xs0, n0, _, hx0, hl0, hn0, hf0⟩ := DataW.trod_struct Try.underlying36 h
  rw [hc0] at hl0
  obtain ⟨c0_0, c0_1, c0_2, c0_3, c0_4, rfl⟩ : ∃ c0_0 c0_1 c0_2 c0_3 c0_4, cs = [c0_0, c0_1, c0_2, c0_3, c0_4] := by
    match cs, hl0 with
    | [c0_0, c0_1, c0_2, c0_3, c0_4], _ => exact ⟨_, _, _, _, _, rfl⟩
  obtain ⟨x0_0, x0_1, x0_2, x0_3, x0_4, rfl⟩ : ∃ x0_0 x0_1 x0_2 x0_3 x0_4, xs0 = [x0_0, x0_1, x0_2, x0_3, x0_4] := by
    match xs0, hn0 with
    | [x0_0, x0_1, x0_2, x0_3, x0_4], _ => exact ⟨_, _, _, _, _, rfl⟩
  have h0_0 : DataW.trod enc Try.prog W base spare held n0 3 (List.take (Try.prog.cellsOf 3) (List.drop 0 [c0_0, c0_1, c0_2, c0_3, c0_4])) = [x0_0, x0_1, x0_2, x0_3, x0_4][0]? := hf0 0 _ rfl
  rw [show Try.prog.cellsOf 3 = 1 from by kernel_rfl] at h0_0
  replace h0_0 : DataW.trod enc Try.prog W base spare held n0 3 [c0_0] = some x0_0 := h0_0
  have h0_1 : DataW.trod enc Try.prog W base spare held n0 3 (List.take (Try.prog.cellsOf 3) (List.drop 1 [c0_0, c0_1, c0_2, c0_3, c0_4])) = [x0_0, x0_1, x0_2, x0_3, x0_4][1]? := hf0 1 _ rfl
  rw [show Try.prog.cellsOf 3 = 1 from by kernel_rfl] at h0_1
  replace h0_1 : DataW.trod enc Try.prog W base spare held n0 3 [c0_1] = some x0_1 := h0_1
  have h0_2 : DataW.trod enc Try.prog W base spare held n0 3 (List.take (Try.prog.cellsOf 3) (List.drop 2 [c0_0, c0_1, c0_2, c0_3, c0_4])) = [x0_0, x0_1, x0_2, x0_3, x0_4][2]? := hf0 2 _ rfl
  rw [show Try.prog.cellsOf 3 = 1 from by kernel_rfl] at h0_2
  replace h0_2 : DataW.trod enc Try.prog W base spare held n0 3 [c0_2] = some x0_2 := h0_2
  have h0_3 : DataW.trod enc Try.prog W base spare held n0 9 (List.take (Try.prog.cellsOf 9) (List.drop 3 [c0_0, c0_1, c0_2, c0_3, c0_4])) = [x0_0, x0_1, x0_2, x0_3, x0_4][3]? := hf0 3 _ rfl
  rw [show Try.prog.cellsOf 9 = 1 from by kernel_rfl] at h0_3
  replace h0_3 : DataW.trod enc Try.prog W base spare held n0 9 [c0_3] = some x0_3 := h0_3
  have h0_4 : DataW.trod enc Try.prog W base spare held n0 32 (List.take (Try.prog.cellsOf 32) (List.drop 4 [c0_0, c0_1, c0_2, c0_3, c0_4])) = [x0_0, x0_1, x0_2, x0_3, x0_4][4]? := hf0 4 _ rfl
  rw [show Try.prog.cellsOf 32 = 1 from by kernel_rfl] at h0_4
  replace h0_4 : DataW.trod enc Try.prog W base spare held n0 32 [c0_4] = some x0_4 := h0_4
  obtain ⟨a0, q0, z0, w0⟩ := DataW.trod_int Try.underlying3 h0_0
  obtain rfl := List.head_eq_of_cons_eq q0
  subst z0
  obtain ⟨a1, q1, z1, w1⟩ := DataW.trod_int Try.underlying3 h0_1
  obtain rfl := List.head_eq_of_cons_eq q1
  subst z1
  obtain ⟨a2, q2, z2, w2⟩ := DataW.trod_int Try.underlying3 h0_2
  obtain rfl := List.head_eq_of_cons_eq q2
  subst z2
  obtain ⟨a3, q3, z3, w3⟩ := DataW.trod_string Try.underlying9 h0_3
  obtain rfl := List.head_eq_of_cons_eq q3
  subst z3
  obtain ⟨A4, g4, a4, q4, w4, r4, z4⟩ := open_kd (k := (Kd.int .i64)) (Q := (QInt .i64)) Try.underlying32 (by kernel_rfl) (open_int' Try.underlying3) h0_4
  obtain rfl := List.head_eq_of_cons_eq q4
  refine ⟨⟨a0, a1, a2, a3, a4⟩, k36_mk W ⟨a0, a1, a2, a3, a4⟩ A4 g4 w4 r4, ?_⟩
  subst hx0
  exact ⟨_, rfl, w0, w1, w2, w3, z4⟩
/-- How far the texts reach. -/
theorem weights_at {H : Type} {P : Program} {t e : TypeId} {ds sp : List (DataW H)} (hu : P.underlying t = some (.slice e)) (z : ∀ n ∈ DataW.weights P t (.slice ds sp), n ≤ reachBytes) : ∀ d ∈ ds, ∀ n ∈ DataW.weights P e d, n ≤ reachBytes := by
  have hall : ∀ (l : List (DataW H)) (d : DataW H), d ∈ l → ∀ n ∈ DataW.weights P e d, n ∈ DataW.weightsAll P e l := by
    intro l
    induction l with
    | nil => intro d hd; cases hd
    | cons a l ih =>
      intro d hd n hn
      simp only [DataW.weightsAll, List.mem_append]
      rcases List.mem_cons.1 hd with rfl | hd
      · exact .inl hn
      · exact .inr (ih d hd n hn)
  intro d hd n hn
  refine z n ?_
  unfold DataW.weights
  rw [hu]
  simp only [List.mem_cons, List.mem_append]
  exact .inr (.inl (hall ds d hd n hn))
set_option maxRecDepth 100000 in
theorem act_text {H : Type} (a : S36) (e4 : DataW H) (z : ∀ n ∈ DataW.weights Try.prog 36 (.agg [.lit (.int .i64 a.f0), .lit (.int .i64 a.f1), .lit (.int .i64 a.f2), .lit (.string a.f3.data.toList), e4]), n ≤ reachBytes) : a.f3.size ≤ reachBytes := by
  have e : ∀ ds : List (DataW H), DataW.weights Try.prog 36 (.agg ds) = DataW.weightsEach Try.prog [3, 3, 3, 9, 32] ds := by
    intro ds
    rw [DataW.weights, Try.underlying36]
    rfl
  refine z _ ?_
  rw [e]
  refine DataW.weights_mem_each (j := 3) (t := 9) (d := .lit (.string a.f3.data.toList)) rfl rfl _ ?_
  show _ ∈ DataW.weights Try.prog 9 (.lit (.string a.f3.data.toList))
  rw [DataW.weights]
  exact List.mem_singleton.2 rfl
end Go.Proofs.Ytahfcnbdladfbaa

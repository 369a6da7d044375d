/- PlaceTells: a key's walk, its shard, and a shard's node are the document's. Condition: the text takes at most 2^47 - 4096 bytes (the row's own reach). -/
-- ZERO 2 .agg #[.int .i64 0, .int .i64 0]
import Derived.Test.YtbodaohbmekekaaRef
import Derived.OpenShut
import Derived.ProofKit
set_option linter.unusedVariables false
set_option linter.unusedSimpArgs false
namespace Go.Proofs.Ytbodaohbmekekaa
open Go.RowKit Go.Proofs.YtbodaohbmekekaaW.PrintWords

theorem tells_bits {s : ByteArray} {re im : Nat} (h : Fl.Rep re (wX s) ∧ Fl.Rep im (wY s)) :
    (FloatKind.f64.format.order re (floatOfInt .f64 (wX s)) == some .eq) = true ∧ (FloatKind.f64.format.order im (floatOfInt .f64 (wY s)) == some .eq) = true := by
  have bx := wX_bound s
  have hy := wY_bound s
  refine ⟨?_, ?_⟩
  · show (FloatKind.f64.format.order re (FloatKind.f64.nearest (wX s)) == some .eq) = true
    rw [Fl.rep_eq h.1 (Fl.rep_nearest _ (by omega))]; simp
  · show (FloatKind.f64.format.order im (FloatKind.f64.nearest (wY s)) == some .eq) = true
    rw [Fl.rep_eq h.2 (Fl.rep_nearest _ (by omega))]; simp

set_option maxRecDepth 100000 in
set_option maxHeartbeats 4000000 in
theorem tells_core (a0 : ByteArray) (n a b : Int) (w0 : a0.size ≤ maxLen) (w : World) :
    Calls Try.prog 5 #[.string a0, .int .i64 n, .agg #[.int .i64 a, .int .i64 b]] w fun e w' => e = .returned (.bool true) ∧ Below w.heap.size w w' := by
  have ka := Lib.hid awake_calls
  have kw := Lib.hid (fun w => walk_calls a0 w w0)
  have kr := Lib.hid (fun w => rwalk_calls a0 w w0)
  have ks : Hid (∃ v e, (∀ w, Calls Try.prog 11 #[.string a0, .int .i64 n] w fun e' w' => e' = .returned (.tuple #[.int .i64 v, .int .i64 e]) ∧ Drawn0 w w') ∧ (∀ w, Calls Try.prog 12 #[.string a0, .int .i64 n] w fun e' w' => e' = .returned (.tuple #[.int .i64 v, .int .i64 e]) ∧ Drawn0 w w') ∧ ((e = 0 ∧ 0 ≤ v ∧ v < n) ∨ e = 1)) := by
    refine ⟨sv a0 n, se a0 n, fun w => shard_calls a0 n w w0, fun w => rshard_calls a0 n w w0, ?_⟩
    unfold sv se
    cases h : okShard a0 n with
    | true =>
      have h' := of_decide_eq_true h
      exact .inl ⟨rfl, Int.emod_nonneg _ (by omega), Int.emod_lt_of_pos _ (by omega)⟩
    | false => exact .inr rfl
  have kn : Hid (∃ v e, (∀ w, Calls Try.prog 13 #[.int .i64 a, .int .i64 b] w fun e' w' => e' = .returned (.tuple #[.int .i64 v, .int .i64 e]) ∧ Drawn0 w w') ∧ (∀ w, Calls Try.prog 14 #[.int .i64 a, .int .i64 b] w fun e' w' => e' = .returned (.tuple #[.int .i64 v, .int .i64 e]) ∧ Drawn0 w w')) := by
    rcases (show (0 ≤ a ∧ a < 8 ∧ 1 ≤ b ∧ b ≤ 4) ∨ (a < 0 ∨ 8 ≤ a ∨ b < 1 ∨ 4 < b) by omega) with hn | hn
    · exact ⟨_, _, fun w => node_yes a b w hn, fun w => rnode_yes a b w hn⟩
    · exact ⟨_, _, fun w => node_no a b w hn, fun w => rnode_no a b w hn⟩
  obtain ⟨v, e, k1, k2, h3⟩ := ks.out
  obtain ⟨v', e', k3, k4⟩ := kn.out
  have K1 := Lib.hid k1
  have K2 := Lib.hid k2
  have K3 := Lib.hid k3
  have K4 := Lib.hid k4
  clear ks kn k1 k2 k3 k4
  rcases h3 with ⟨rfl, h1, h2⟩ | rfl
  all_goals
    go_enter Try.func5, Try.ntmps5
    go_wp2_with (first | (go_at_call 8; refine (ka.out _).mono ?_; rintro e w' ⟨rfl, ⟨m, rfl⟩⟩) | (go_at_call 10; refine (kr.out _).mono ?_; rintro e w' ⟨rfl, ⟨m2, rfl⟩⟩) | (go_at_call 9; refine (kw.out _).mono ?_; rintro e w' ⟨⟨re, im, rfl, hr, hi⟩, ⟨m3, rfl⟩⟩; obtain ⟨f1, f2⟩ := tells_bits ⟨hr, hi⟩; clear hr hi) | (go_at_call 11; refine (K1.out _).mono ?_; rintro e w' ⟨rfl, ⟨m4, rfl⟩⟩) | (go_at_call 12; refine (K2.out _).mono ?_; rintro e w' ⟨rfl, ⟨m5, rfl⟩⟩) | (go_at_call 13; refine (K3.out _).mono ?_; rintro e w' ⟨rfl, ⟨m6, rfl⟩⟩) | (go_at_call 14; refine (K4.out _).mono ?_; rintro e w' ⟨rfl, ⟨m7, rfl⟩⟩))
    go_ret
    exact ⟨rfl, pw_below_drewN ((Below.refl _ w).alloc (Nat.le_refl _) _) _⟩
theorem open_two {H : Type} {enc : TypeId × Value → H} {W : World} {base : Nat} {v : Value} {d : DataW H} {p : List MemPlace} (u : Value.okWide Try.prog W .any base 29 v) (h : DataW.Trod enc Try.prog W 0 (fun _ => true) true 29 v d p) :
    ∃ a b : Int, v = .agg #[.int .i64 a, .int .i64 b] := by
  have hc29 : Try.prog.cellsOf 29 = 2 := by kernel_rfl
  have hc3 : Try.prog.cellsOf 3 = 1 := by kernel_rfl
  obtain ⟨cs, rfl, hs⟩ : ∃ cs, v = .agg cs ∧ cs.size = 2 := by
    unfold Value.okWide at u
    rw [Try.underlying29] at u
    obtain ⟨cs, e, hs, _⟩ := u
    exact ⟨cs, e, by rw [hs, hc29]⟩
  obtain ⟨c0, c1, rfl⟩ : ∃ c0 c1, cs = #[c0, c1] := by
    obtain ⟨l⟩ := cs
    match l, hs with
    | [c0, c1], _ => exact ⟨c0, c1, rfl⟩
  obtain ⟨fuel, hf⟩ := h
  obtain ⟨xs, m, _, _, _, hl, hel⟩ := DataW.trod_array Try.underlying29 hf
  have e0 := hel 0 (by decide)
  have e1 := hel 1 (by decide)
  rw [hc3] at e0 e1
  simp only [Value.cells, List.drop, List.take] at e0 e1
  rw [List.getElem?_eq_getElem (by omega)] at e0 e1
  obtain ⟨a, ea, _, _⟩ := DataW.trod_int Try.underlying3 e0
  obtain ⟨b, eb, _, _⟩ := DataW.trod_int Try.underlying3 e1
  simp at ea eb
  exact ⟨a, b, by rw [ea, eb]⟩
theorem walk_PlaceTells {H : Type} {enc : TypeId × Value → H} (W : World) (a0 : ByteArray) (n : Int) (v2 : Value) (d2 : DataW H) (p2 : List MemPlace) (w0 : a0.size ≤ 140737488351232) (w1 : (Lit.int .i64 n).wf = true)
    (h2 : DataW.Trod enc Try.prog W 0 (fun _ => true) true 29 v2 d2 p2) {base : Nat} (u2 : Value.okWide Try.prog W .any base 29 v2) (z2 : ∀ n ∈ DataW.weights Try.prog 29 d2, n ≤ reachBytes) :
    Calls Try.prog 5 #[.string a0, .int .i64 n, v2] W fun e w' => e = .returned (.bool true) ∧ Below W.heap.size W w' := by
  obtain ⟨a, b, rfl⟩ := open_two u2 h2
  exact tells_core a0 n a b (by unfold maxLen; omega) W
end Go.Proofs.Ytbodaohbmekekaa

/- Contracts of Go functions and what each computes, as plain Lean functions: written by a program of this session over the kit's own print. Conditions: those that each theorem names. -/
import Derived.Test.YtblabgdkbcphkaaZz
import Derived.Test.YtblabgdkbcphkaaPRdx
import Derived.Test.YtblabgdkbcphkaaPRtx
import Derived.Test.YtblabgdkbcphkaaProg
import Derived.Below
import Derived.Deep.Draws
import Derived.Deep.AppendLies
import Derived.Maps.AppendAt
import Derived.OwnWalk
import Derived.Laws.BytesArg
import Derived.Laws.MakeOwn
import Derived.Laws.OwnMore
import Derived.Deep.OwnRows
import Derived.Tactics
import Derived.Lib.ConvBytes
import Derived.Laws.Slices
import Derived.WalkKit
import Derived.KernelRfl
import Derived.RowKit3
import Derived.Deep.LoopGhost
import Derived.Deep.QuietTactic
import Derived.BigQuiet
import Derived.WideLaws
import Derived.Deep.DeepCutAuto
import Derived.Deep.CutBlock
import Derived.Deep.RegionHeld3
import Derived.Laws.Rows
import Derived.Lib.AppendStr
import Derived.ArgAppend
import Derived.Laws.IdiomCopy
import Derived.OrdersHeld
import Derived.Laws.BitsLemmas
import Derived.RowKit
import Derived.Test.YtblabgdkbcphkaaWWords
import Derived.Test.YtblabgdkbcphkaaWLast
import Derived.Test.YtblabgdkbcphkaaWTab
import Derived.Test.YtblabgdkbcphkaaWApart
import Derived.Test.YtblabgdkbcphkaaWArr
import Derived.Test.YtblabgdkbcphkaaWZeros
import Derived.Test.YtblabgdkbcphkaaWFoot
import Derived.Test.YtblabgdkbcphkaaWKept
import Derived.Test.YtblabgdkbcphkaaWShare
import Derived.Test.YtblabgdkbcphkaaWN
import Derived.Test.YtblabgdkbcphkaaWFootNe
import Derived.Test.YtblabgdkbcphkaaWEqStruct
import Derived.Test.YtblabgdkbcphkaaWRepsOne
import Derived.Test.YtblabgdkbcphkaaWGuard
import Derived.Test.YtblabgdkbcphkaaWMore
namespace Go.Proofs.Ytblabgdkbcphkaa.PEs
open Go.Proofs.Ytblabgdkbcphkaa Go.Proofs.Ytblabgdkbcphkaa.PRd Go.Proofs.Ytblabgdkbcphkaa.PRt
open Go.RowKit Go.Proofs.YtblabgdkbcphkaaW.PrintWords Go.Proofs.YtblabgdkbcphkaaW.PrintLast Go.Proofs.YtblabgdkbcphkaaW.PrintMore
attribute [local go_sem] max2_int min2_int max_two min_two max_three min_three max_four min_four   -- for this text's walks alone
set_option linter.unusedVariables false
set_option linter.unusedSimpArgs false



def errW : Option Int → Value
  | none => .nilIface
  | some c => .iface 0 (.int .i64 c)
theorem errW_none : errW none = .nilIface := rfl
theorem errW_some (c : Int) : errW (some c) = .iface 0 (.int .i64 c) := rfl

theorem info54 : (Try.prog.info? 54).map (fun i => (i.zero, i.size, i.bytes)) = some (some (.agg #[(.string ⟨#[]⟩), (.string ⟨#[]⟩), (.bool false)]), 3, 40) := by kernel_rfl
-- the values' own types
/-! #### struct type 54 -/
structure S54 where
  f0 : ByteArray
  f1 : ByteArray
  f2 : Bool
def z54 : S54 := ⟨(⟨#[]⟩ : ByteArray), (⟨#[]⟩ : ByteArray), false⟩
def k54 : Kd S54 := Kd.iso (Kd.pair Kd.string (Kd.pair Kd.string Kd.bool)) (fun x : S54 => (x.f0, x.f1, x.f2))
theorem k54_open {w : World} {x : S54} {cs : List Value} (h : k54.K w x cs) : cs = [.string x.f0, .string x.f1, .bool x.f2] := by
  obtain ⟨_, _, rfl, rfl, ⟨_, _, rfl, rfl, rfl⟩⟩ := h
  exact rfl
theorem k54_mk (w : World) (x : S54)  : k54.K w x [.string x.f0, .string x.f1, .bool x.f2] := ⟨[.string x.f0], [.string x.f1, .bool x.f2], rfl, rfl, ⟨[.string x.f1], [.bool x.f2], rfl, rfl, rfl⟩⟩
theorem k54_mkM (w : World) (base : Nat) (ok : Nat → Prop) (x : S54)  : k54.M w base ok x [.string x.f0, .string x.f1, .bool x.f2] := ⟨[.string x.f0], [.string x.f1, .bool x.f2], rfl, rfl, ⟨[.string x.f1], [.bool x.f2], rfl, rfl, rfl⟩⟩
def rd_T54 (xs : List S54) (i : Int) : S54 := xs.getD i.toNat z54
theorem at_T54 {w : World} {A : Option Addr} {n : Nat} {xs : List S54} (h : Kd.C k54 w A n xs) (i : Int) (h0 : 0 ≤ i) (h1 : i < n) : ∃ ad , A = some ad ∧ w.cell? (ad.add (i.toNat * 3)) = some (.string (rd_T54 xs i).f0) ∧ w.cell? ⟨(ad.add (i.toNat * 3)).block, (ad.add (i.toNat * 3)).off + 1, none⟩ = some (.string (rd_T54 xs i).f1) ∧ w.cell? ⟨(ad.add (i.toNat * 3)).block, (ad.add (i.toNat * 3)).off + 2, none⟩ = some (.bool (rd_T54 xs i).f2) := by
  obtain ⟨ad, c, e, _, hK, hc0⟩ := Kd.C_get h z54 i h0 h1
  have hc : ∀ j u, c[j]? = some u → w.cell? (ad.add (i.toNat * 3 + j)) = some u := hc0
  obtain rfl := k54_open hK
  exact ⟨ad, e, hc 0 _ rfl, by rw [← add_field _ _ 1 (by omega)]; exact hc 1 _ rfl, by rw [← add_field _ _ 2 (by omega)]; exact hc 2 _ rfl⟩

end Go.Proofs.Ytblabgdkbcphkaa.PEs

/- Contracts of Go functions and what each computes, as plain Lean functions: written by a program of this session over the kit's own print. Conditions: those that each theorem names. -/
namespace Go.Proofs.Ytblabgdkbcphkaa.PEs
open Go.Proofs.Ytblabgdkbcphkaa Go.Proofs.Ytblabgdkbcphkaa.PRd Go.Proofs.Ytblabgdkbcphkaa.PRt
open Go.RowKit Go.Proofs.YtblabgdkbcphkaaW.PrintWords Go.Proofs.YtblabgdkbcphkaaW.PrintLast Go.Proofs.YtblabgdkbcphkaaW.PrintMore
attribute [local go_sem] max2_int min2_int max_two min_two max_three min_three max_four min_four   -- for this text's walks alone
set_option linter.unusedVariables false
set_option linter.unusedSimpArgs false

theorem eqA24 (d : Nat) (w : World) (x0 y0 : Int) (x1 y1 : Int) :
    (Op.equalIn (d + 2) 24 (.agg #[.int .u32 x0, .int .u32 x1]) (.agg #[.int .u32 y0, .int .u32 y1])).run Try.prog w = .ok (x0 == y0 && (x1 == y1)) w := by
  refine eqA_of Try.underlying24 (by kernel_rfl) ?_
  refine eqf_cons (by rfl) (by go_simp; rfl) (by go_simp; rfl) (by go_simp) ?_
  exact eqf_last (by rfl) (by go_simp; rfl) (by go_simp; rfl) (by go_simp)
end Go.Proofs.Ytblabgdkbcphkaa.PEs

/- Contracts of Go functions and what each computes, as plain Lean functions: written by a program of this session over the kit's own print. Conditions: those that each theorem names. -/
namespace Go.Proofs.Ytblabgdkbcphkaa.PEs
open Go.Proofs.Ytblabgdkbcphkaa Go.Proofs.Ytblabgdkbcphkaa.PRd Go.Proofs.Ytblabgdkbcphkaa.PRt
open Go.RowKit Go.Proofs.YtblabgdkbcphkaaW.PrintWords Go.Proofs.YtblabgdkbcphkaaW.PrintLast Go.Proofs.YtblabgdkbcphkaaW.PrintMore
attribute [local go_sem] max2_int min2_int max_two min_two max_three min_three max_four min_four   -- for this text's walks alone
set_option linter.unusedVariables false
set_option linter.unusedSimpArgs false

theorem eqA27 (d : Nat) (w : World) (x0 y0 : Int) (x1 y1 : Int) :
    (Op.equalIn (d + 2) 27 (.agg #[.int .u64 x0, .int .u32 x1]) (.agg #[.int .u64 y0, .int .u32 y1])).run Try.prog w = .ok (x0 == y0 && (x1 == y1)) w := by
  refine eqA_of Try.underlying27 (by kernel_rfl) ?_
  refine eqf_cons (by rfl) (by go_simp; rfl) (by go_simp; rfl) (by go_simp) ?_
  exact eqf_last (by rfl) (by go_simp; rfl) (by go_simp; rfl) (by go_simp)
end Go.Proofs.Ytblabgdkbcphkaa.PEs

/- Contracts of Go functions and what each computes, as plain Lean functions: written by a program of this session over the kit's own print. Conditions: those that each theorem names. -/
namespace Go.Proofs.Ytblabgdkbcphkaa.PEs
open Go.Proofs.Ytblabgdkbcphkaa Go.Proofs.Ytblabgdkbcphkaa.PRd Go.Proofs.Ytblabgdkbcphkaa.PRt
open Go.RowKit Go.Proofs.YtblabgdkbcphkaaW.PrintWords Go.Proofs.YtblabgdkbcphkaaW.PrintLast Go.Proofs.YtblabgdkbcphkaaW.PrintMore
attribute [local go_sem] max2_int min2_int max_two min_two max_three min_three max_four min_four   -- for this text's walks alone
set_option linter.unusedVariables false
set_option linter.unusedSimpArgs false

theorem eqA54 (d : Nat) (w : World) (x0 y0 : ByteArray) (x1 y1 : ByteArray) (x2 y2 : Bool) :
    (Op.equalIn (d + 2) 54 (.agg #[.string x0, .string x1, .bool x2]) (.agg #[.string y0, .string y1, .bool y2])).run Try.prog w = .ok (x0.toList == y0.toList && (x1.toList == y1.toList && (x2 == y2))) w := by
  refine eqA_of Try.underlying54 (by kernel_rfl) ?_
  refine eqf_cons (by rfl) (by go_simp; rfl) (by go_simp; rfl) (by go_simp) ?_
  refine eqf_cons (by rfl) (by go_simp; rfl) (by go_simp; rfl) (by go_simp) ?_
  exact eqf_last (by rfl) (by go_simp; rfl) (by go_simp; rfl) (by go_simp)
end Go.Proofs.Ytblabgdkbcphkaa.PEs

/- Contracts of Go functions and what each computes, as plain Lean functions: written by a program of this session over the kit's own print. Conditions: those that each theorem names. -/
namespace Go.Proofs.Ytblabgdkbcphkaa.PEs
open Go.Proofs.Ytblabgdkbcphkaa Go.Proofs.Ytblabgdkbcphkaa.PRd Go.Proofs.Ytblabgdkbcphkaa.PRt
open Go.RowKit Go.Proofs.YtblabgdkbcphkaaW.PrintWords Go.Proofs.YtblabgdkbcphkaaW.PrintLast Go.Proofs.YtblabgdkbcphkaaW.PrintMore
attribute [local go_sem] max2_int min2_int max_two min_two max_three min_three max_four min_four   -- for this text's walks alone
set_option linter.unusedVariables false
set_option linter.unusedSimpArgs false

/-! ### entry_fields: function 14 -/
def entry_fields.j0 : Nat → Int → Bool → Option (Int)
  | 0, _, _ => none
  | k + 1, x3, x4 => if x4 = true then (some 8) else (if x3 = 2 then (some 55) else (if x3 = 3 then (some 139) else (if x3 = 4 then (some 9) else (if x3 = 5 then (some 3) else (if x3 = 7 then (some 1) else (if x3 = 8 then (some 73) else (if x3 = 9 then (some 395) else (some 0))))))))
def entry_fields.f (k : Nat) (a0 : Int) : Option (Int) := if a0 = 1 then (entry_fields.j0 k a0 (a0 == 1)) else (entry_fields.j0 k a0 (a0 == 6))
theorem entry_fields.mono_l : ∀ k, (∀ y0 y1, LeO (entry_fields.j0 k y0 y1) (entry_fields.j0 (k + 1) y0 y1))
  | 0 => fun _ _ r h => by simp [entry_fields.j0] at h
  | k + 1 => by
    have ih0 := entry_fields.mono_l k
    · intro y0 y1
      unfold entry_fields.j0
      repeat' first
      | (with_reducible exact ih0 _ _)
      | (with_reducible exact LeO.refl _)
      | (with_reducible exact LeO.none _)
      | (with_reducible refine LeO.ite ?_ ?_)
      | (with_reducible refine LeO.bind ?_ (fun _ => ?_))
      | exact ih0 _ _
      | exact LeO.none _
      | refine LeO.ite ?_ ?_
      | refine LeO.bind ?_ (fun _ => ?_)
theorem entry_fields.mono : ∀ a0 k, LeO (entry_fields.f k a0) (entry_fields.f (k + 1) a0) := by
  intro a0 k
  have ih0 := entry_fields.mono_l k
  unfold entry_fields.f
  repeat' first
      | (with_reducible exact ih0 _ _)
      | (with_reducible exact LeO.refl _)
      | (with_reducible exact LeO.none _)
      | (with_reducible refine LeO.ite ?_ ?_)
      | (with_reducible refine LeO.bind ?_ (fun _ => ?_))
      | exact ih0 _ _
      | exact LeO.none _
      | refine LeO.ite ?_ ?_
      | refine LeO.bind ?_ (fun _ => ?_)
set_option maxHeartbeats 8000000 in
set_option maxRecDepth 100000 in
theorem entry_fields.calls (k : Nat) (a0 : Int) (r : Int) (w : World) (h : entry_fields.f k a0 = some r) :
    Calls Try.prog 14 #[.int .i64 a0] w fun e w' => e = .returned (.int .i64 r) ∧ Drawn0 w w' := by
  have H : (if a0 = 1 then (entry_fields.j0 k a0 (a0 == 1)) else (entry_fields.j0 k a0 (a0 == 6))) = some r := h
  clear h
  have HC2 := Aside0.mk H
  clear H
  go_enter Try.func14, Try.ntmps14
  go_upto_if 4 with (fail)
  go_cut [4] (fun v4 wc => ∃ (kq : Nat) (x4_1 : Bool), v4 = .bool x4_1 ∧ Aside0 (entry_fields.j0 kq a0 x4_1 = some r) ∧ Aside0 (kq ≤ k) ∧ Drawn0 w wc)
  case first =>
    have H := HC2.out
    clear HC2
    by_cases c3 : a0 = 1
    · rw [if_pos c3] at H
      have c3b0 : (a0 == 1) = true := beq_iff_eq.mpr c3
      have c3b1 : (a0 != 1) = false := bne_eq_false_iff_eq.mpr c3
      clear c3
      (first | rw [c3b0] | (simp only [i64_w, i32_w]; rw [c3b0]) | skip)
      have H' := Aside0.mk H
      clear H
      go_wp2
      go_meet
      case rel => exact ⟨_, ((a0 == 1)), (by first | rfl | (simp; done) | (simp [*]; done)), H', ⟨by first | omega | exact Nat.le_refl _⟩, by repeat (first | exact Drawn0.refl _ | apply Drawn0.step)⟩
    · rw [if_neg c3] at H
      have c3b0 : (a0 == 1) = false := beq_eq_false_iff_ne.mpr c3
      have c3b1 : (a0 != 1) = true := bne_iff_ne.mpr c3
      (first | rw [c3b0] | (simp only [i64_w, i32_w]; rw [c3b0]) | skip)
      have H' := Aside0.mk H
      clear H
      go_wp2
      go_meet
      case rel => exact ⟨_, ((a0 == 6)), (by first | rfl | (simp; done) | (simp [*]; done)), H', ⟨by first | omega | exact Nat.le_refl _⟩, by repeat (first | exact Drawn0.refl _ | apply Drawn0.step)⟩
  case rest =>
    clear HC2
    try clear c1
    try clear p2
    try clear c3
    try clear c3b0
    try clear c3b1
    obtain ⟨kq, x4_1, rfl, HA, HJ1, ⟨mc1, rfl⟩⟩ := hcut
    cases kq with
    | zero => exact absurd HA.out (by simp [entry_fields.j0])
    | succ kj1 =>
      have H := HA.out
      clear HA
      simp only [entry_fields.j0] at H
      by_cases c4 : x4_1 = true
      · subst c4
        have H1 : (some 8) = some r := by rw [if_pos rfl] at H; exact H
        clear H
        have H := H1
        clear H1
        obtain rfl := Option.some.inj H
        go_wp2
        go_ret
        exact ⟨by first | rfl | (simp; done) | (simp [*]; done), by repeat (first | exact Drawn0.refl _ | apply Drawn0.step)⟩
      · replace c4 := Bool.eq_false_iff.mpr c4
        subst c4
        have H1 : (if a0 = 2 then (some 55) else (if a0 = 3 then (some 139) else (if a0 = 4 then (some 9) else (if a0 = 5 then (some 3) else (if a0 = 7 then (some 1) else (if a0 = 8 then (some 73) else (if a0 = 9 then (some 395) else (some 0)))))))) = some r := by rw [if_neg (show ¬ (false = true) by decide)] at H; exact H
        clear H
        have H := H1
        clear H1
        by_cases c5 : a0 = 2
        · rw [if_pos c5] at H
          have c5b0 : (a0 == 2) = true := beq_iff_eq.mpr c5
          have c5b1 : (a0 != 2) = false := bne_eq_false_iff_eq.mpr c5
          clear c5
          obtain rfl := Option.some.inj H
          go_wp2
          go_ret
          exact ⟨by first | rfl | (simp; done) | (simp [*]; done), by repeat (first | exact Drawn0.refl _ | apply Drawn0.step)⟩
        · rw [if_neg c5] at H
          have c5b0 : (a0 == 2) = false := beq_eq_false_iff_ne.mpr c5
          have c5b1 : (a0 != 2) = true := bne_iff_ne.mpr c5
          by_cases c6 : a0 = 3
          · rw [if_pos c6] at H
            have c6b0 : (a0 == 3) = true := beq_iff_eq.mpr c6
            have c6b1 : (a0 != 3) = false := bne_eq_false_iff_eq.mpr c6
            clear c6
            obtain rfl := Option.some.inj H
            go_wp2
            go_ret
            exact ⟨by first | rfl | (simp; done) | (simp [*]; done), by repeat (first | exact Drawn0.refl _ | apply Drawn0.step)⟩
          · rw [if_neg c6] at H
            have c6b0 : (a0 == 3) = false := beq_eq_false_iff_ne.mpr c6
            have c6b1 : (a0 != 3) = true := bne_iff_ne.mpr c6
            by_cases c7 : a0 = 4
            · rw [if_pos c7] at H
              have c7b0 : (a0 == 4) = true := beq_iff_eq.mpr c7
              have c7b1 : (a0 != 4) = false := bne_eq_false_iff_eq.mpr c7
              clear c7
              obtain rfl := Option.some.inj H
              go_wp2
              go_ret
              exact ⟨by first | rfl | (simp; done) | (simp [*]; done), by repeat (first | exact Drawn0.refl _ | apply Drawn0.step)⟩
            · rw [if_neg c7] at H
              have c7b0 : (a0 == 4) = false := beq_eq_false_iff_ne.mpr c7
              have c7b1 : (a0 != 4) = true := bne_iff_ne.mpr c7
              by_cases c8 : a0 = 5
              · rw [if_pos c8] at H
                have c8b0 : (a0 == 5) = true := beq_iff_eq.mpr c8
                have c8b1 : (a0 != 5) = false := bne_eq_false_iff_eq.mpr c8
                clear c8
                obtain rfl := Option.some.inj H
                go_wp2
                go_ret
                exact ⟨by first | rfl | (simp; done) | (simp [*]; done), by repeat (first | exact Drawn0.refl _ | apply Drawn0.step)⟩
              · rw [if_neg c8] at H
                have c8b0 : (a0 == 5) = false := beq_eq_false_iff_ne.mpr c8
                have c8b1 : (a0 != 5) = true := bne_iff_ne.mpr c8
                by_cases c9 : a0 = 7
                · rw [if_pos c9] at H
                  have c9b0 : (a0 == 7) = true := beq_iff_eq.mpr c9
                  have c9b1 : (a0 != 7) = false := bne_eq_false_iff_eq.mpr c9
                  clear c9
                  obtain rfl := Option.some.inj H
                  go_wp2
                  go_ret
                  exact ⟨by first | rfl | (simp; done) | (simp [*]; done), by repeat (first | exact Drawn0.refl _ | apply Drawn0.step)⟩
                · rw [if_neg c9] at H
                  have c9b0 : (a0 == 7) = false := beq_eq_false_iff_ne.mpr c9
                  have c9b1 : (a0 != 7) = true := bne_iff_ne.mpr c9
                  by_cases c10 : a0 = 8
                  · rw [if_pos c10] at H
                    have c10b0 : (a0 == 8) = true := beq_iff_eq.mpr c10
                    have c10b1 : (a0 != 8) = false := bne_eq_false_iff_eq.mpr c10
                    clear c10
                    obtain rfl := Option.some.inj H
                    go_wp2
                    go_ret
                    exact ⟨by first | rfl | (simp; done) | (simp [*]; done), by repeat (first | exact Drawn0.refl _ | apply Drawn0.step)⟩
                  · rw [if_neg c10] at H
                    have c10b0 : (a0 == 8) = false := beq_eq_false_iff_ne.mpr c10
                    have c10b1 : (a0 != 8) = true := bne_iff_ne.mpr c10
                    by_cases c11 : a0 = 9
                    · rw [if_pos c11] at H
                      have c11b0 : (a0 == 9) = true := beq_iff_eq.mpr c11
                      have c11b1 : (a0 != 9) = false := bne_eq_false_iff_eq.mpr c11
                      clear c11
                      obtain rfl := Option.some.inj H
                      go_wp2
                      go_ret
                      exact ⟨by first | rfl | (simp; done) | (simp [*]; done), by repeat (first | exact Drawn0.refl _ | apply Drawn0.step)⟩
                    · rw [if_neg c11] at H
                      have c11b0 : (a0 == 9) = false := beq_eq_false_iff_ne.mpr c11
                      have c11b1 : (a0 != 9) = true := bne_iff_ne.mpr c11
                      obtain rfl := Option.some.inj H
                      go_wp2
                      go_ret
                      exact ⟨by first | rfl | (simp; done) | (simp [*]; done), by repeat (first | exact Drawn0.refl _ | apply Drawn0.step)⟩

end Go.Proofs.Ytblabgdkbcphkaa.PEs

/- Contracts of Go functions and what each computes, as plain Lean functions: written by a program of this session over the kit's own print. Conditions: those that each theorem names. -/
namespace Go.Proofs.Ytblabgdkbcphkaa.PEs
open Go.Proofs.Ytblabgdkbcphkaa Go.Proofs.Ytblabgdkbcphkaa.PRd Go.Proofs.Ytblabgdkbcphkaa.PRt
open Go.RowKit Go.Proofs.YtblabgdkbcphkaaW.PrintWords Go.Proofs.YtblabgdkbcphkaaW.PrintLast Go.Proofs.YtblabgdkbcphkaaW.PrintMore
attribute [local go_sem] max2_int min2_int max_two min_two max_three min_three max_four min_four   -- for this text's walks alone
set_option linter.unusedVariables false
set_option linter.unusedSimpArgs false

attribute [local go_sem high] eqA24 eqA27 eqA54
/-! ### dovecoteref12_Same: function 12 -/
def dovecoteref12_Same.l0 : Nat → Int → Int → Int → Int → Int → Int → Int → Int → Int → Int → ByteArray → Int → Bool → List (S54) → Int → Int → Int → Int → Int → Int → Int → Int → Int → ByteArray → Int → Bool → List (S54) → Option (Bool)
  | 0, _, _, _, _, _, _, _, _, _, _, _, _, _, _, _, _, _, _, _, _, _, _, _, _, _, _, _ => none
  | k + 1, x5, x102000, x102001, x102002, x102003, x102004, x102005, x102006, x102007, x102008, x102009, x102010, x102011, x102012, x103000, x103001, x103002, x103003, x103004, x103005, x103006, x103007, x103008, x103009, x103010, x103011, x103012 => if x5 < (x102012.length : Int) then (if 0 ≤ x5 then (if x5 < (x103012.length : Int) then (if (!((((rd_T54 x102012 x5).f0).toList) == (((rd_T54 x103012 x5).f0).toList)) || (!((((rd_T54 x102012 x5).f1).toList) == (((rd_T54 x103012 x5).f1).toList)) || (!(((rd_T54 x102012 x5).f2) == ((rd_T54 x103012 x5).f2))))) = true then (some false) else (dovecoteref12_Same.l0 k (wrap64 (x5 + 1)) x102000 x102001 x102002 x102003 x102004 x102005 x102006 x102007 x102008 x102009 x102010 x102011 x102012 x103000 x103001 x103002 x103003 x103004 x103005 x103006 x103007 x103008 x103009 x103010 x103011 x103012)) else (none)) else (none)) else (if x102000 = x103000 then (if (x102001 == x103001 && (x102002 == x103002)) = true then (if (x102003 == x103003 && (x102004 == x103004)) = true then (if (x102005 == x103005 && (x102006 == x103006)) = true then (if (x102007 == x103007 && (x102008 == x103008)) = true then (if x102009.toList = x103009.toList then (if x102010 = x103010 then (some (x102011 == x103011)) else (some false)) else (some false)) else (some false)) else (some false)) else (some false)) else (some false)) else (some false))
def dovecoteref12_Same.f (k : Nat) (a0_0 : Int) (a0_1 : Int) (a0_2 : Int) (a0_3 : Int) (a0_4 : Int) (a0_5 : Int) (a0_6 : Int) (a0_7 : Int) (a0_8 : Int) (a0_9 : ByteArray) (a0_10 : Int) (a0_11 : Bool) (l0_12 : List (S54)) (a1_0 : Int) (a1_1 : Int) (a1_2 : Int) (a1_3 : Int) (a1_4 : Int) (a1_5 : Int) (a1_6 : Int) (a1_7 : Int) (a1_8 : Int) (a1_9 : ByteArray) (a1_10 : Int) (a1_11 : Bool) (l1_12 : List (S54)) : Option (Bool) := if (l0_12.length : Int) = (l1_12.length : Int) then (dovecoteref12_Same.l0 k 0 a0_0 a0_1 a0_2 a0_3 a0_4 a0_5 a0_6 a0_7 a0_8 a0_9 a0_10 a0_11 l0_12 a1_0 a1_1 a1_2 a1_3 a1_4 a1_5 a1_6 a1_7 a1_8 a1_9 a1_10 a1_11 l1_12) else (some false)
theorem dovecoteref12_Same.mono_l : ∀ k, (∀ y0 y1 y2 y3 y4 y5 y6 y7 y8 y9 y10 y11 y12 y13 y14 y15 y16 y17 y18 y19 y20 y21 y22 y23 y24 y25 y26, LeO (dovecoteref12_Same.l0 k y0 y1 y2 y3 y4 y5 y6 y7 y8 y9 y10 y11 y12 y13 y14 y15 y16 y17 y18 y19 y20 y21 y22 y23 y24 y25 y26) (dovecoteref12_Same.l0 (k + 1) y0 y1 y2 y3 y4 y5 y6 y7 y8 y9 y10 y11 y12 y13 y14 y15 y16 y17 y18 y19 y20 y21 y22 y23 y24 y25 y26))
  | 0 => fun _ _ _ _ _ _ _ _ _ _ _ _ _ _ _ _ _ _ _ _ _ _ _ _ _ _ _ r h => by simp [dovecoteref12_Same.l0] at h
  | k + 1 => by
    have ih0 := dovecoteref12_Same.mono_l k
    · intro y0 y1 y2 y3 y4 y5 y6 y7 y8 y9 y10 y11 y12 y13 y14 y15 y16 y17 y18 y19 y20 y21 y22 y23 y24 y25 y26
      unfold dovecoteref12_Same.l0
      repeat' first
      | (with_reducible exact ih0 _ _ _ _ _ _ _ _ _ _ _ _ _ _ _ _ _ _ _ _ _ _ _ _ _ _ _)
      | (with_reducible exact LeO.refl _)
      | (with_reducible exact LeO.none _)
      | (with_reducible refine LeO.ite ?_ ?_)
      | (with_reducible refine LeO.bind ?_ (fun _ => ?_))
      | exact ih0 _ _ _ _ _ _ _ _ _ _ _ _ _ _ _ _ _ _ _ _ _ _ _ _ _ _ _
      | exact LeO.none _
      | refine LeO.ite ?_ ?_
      | refine LeO.bind ?_ (fun _ => ?_)
theorem dovecoteref12_Same.mono : ∀ a0 a1 a2 a3 a4 a5 a6 a7 a8 a9 a10 a11 a12 a13 a14 a15 a16 a17 a18 a19 a20 a21 a22 a23 a24 a25 k, LeO (dovecoteref12_Same.f k a0 a1 a2 a3 a4 a5 a6 a7 a8 a9 a10 a11 a12 a13 a14 a15 a16 a17 a18 a19 a20 a21 a22 a23 a24 a25) (dovecoteref12_Same.f (k + 1) a0 a1 a2 a3 a4 a5 a6 a7 a8 a9 a10 a11 a12 a13 a14 a15 a16 a17 a18 a19 a20 a21 a22 a23 a24 a25) := by
  intro a0 a1 a2 a3 a4 a5 a6 a7 a8 a9 a10 a11 a12 a13 a14 a15 a16 a17 a18 a19 a20 a21 a22 a23 a24 a25 k
  have ih0 := dovecoteref12_Same.mono_l k
  unfold dovecoteref12_Same.f
  repeat' first
      | (with_reducible exact ih0 _ _ _ _ _ _ _ _ _ _ _ _ _ _ _ _ _ _ _ _ _ _ _ _ _ _ _)
      | (with_reducible exact LeO.refl _)
      | (with_reducible exact LeO.none _)
      | (with_reducible refine LeO.ite ?_ ?_)
      | (with_reducible refine LeO.bind ?_ (fun _ => ?_))
      | exact ih0 _ _ _ _ _ _ _ _ _ _ _ _ _ _ _ _ _ _ _ _ _ _ _ _ _ _ _
      | exact LeO.none _
      | refine LeO.ite ?_ ?_
      | refine LeO.bind ?_ (fun _ => ?_)
set_option maxHeartbeats 8000000 in
set_option maxRecDepth 100000 in
theorem dovecoteref12_Same.calls (k : Nat) (a0_0 : Int) (a0_1 : Int) (a0_2 : Int) (a0_3 : Int) (a0_4 : Int) (a0_5 : Int) (a0_6 : Int) (a0_7 : Int) (a0_8 : Int) (a0_9 : ByteArray) (a0_10 : Int) (a0_11 : Bool) (A0_12 : Option Addr) (c0_12 : Nat) (l0_12 : List (S54)) (a1_0 : Int) (a1_1 : Int) (a1_2 : Int) (a1_3 : Int) (a1_4 : Int) (a1_5 : Int) (a1_6 : Int) (a1_7 : Int) (a1_8 : Int) (a1_9 : ByteArray) (a1_10 : Int) (a1_11 : Bool) (A1_12 : Option Addr) (c1_12 : Nat) (l1_12 : List (S54)) (r : Bool) (w : World) (hr0_12 : Kd.C k54 w A0_12 l0_12.length l0_12) (hc0_12 : l0_12.length ≤ c0_12) (hr1_12 : Kd.C k54 w A1_12 l1_12.length l1_12) (hc1_12 : l1_12.length ≤ c1_12) (h : dovecoteref12_Same.f k a0_0 a0_1 a0_2 a0_3 a0_4 a0_5 a0_6 a0_7 a0_8 a0_9 a0_10 a0_11 l0_12 a1_0 a1_1 a1_2 a1_3 a1_4 a1_5 a1_6 a1_7 a1_8 a1_9 a1_10 a1_11 l1_12 = some r) :
    Calls Try.prog 12 #[.agg #[.int .i64 a0_0, .int .u32 a0_1, .int .u32 a0_2, .int .u64 a0_3, .int .u32 a0_4, .int .u64 a0_5, .int .u32 a0_6, .int .u64 a0_7, .int .u32 a0_8, .string a0_9, .int .u8 a0_10, .bool a0_11, .slice A0_12 l0_12.length c0_12], .agg #[.int .i64 a1_0, .int .u32 a1_1, .int .u32 a1_2, .int .u64 a1_3, .int .u32 a1_4, .int .u64 a1_5, .int .u32 a1_6, .int .u64 a1_7, .int .u32 a1_8, .string a1_9, .int .u8 a1_10, .bool a1_11, .slice A1_12 l1_12.length c1_12]] w fun e w' => e = .returned (.bool r) ∧ Below w.heap.size w w' := by
  have hu30 := Try.underlying30
  have hu54 := Try.underlying54
  have hu24 := Try.underlying24
  have hu27 := Try.underlying27
  have HR0_12 := Aside0.mk hr0_12
  have HC0_12 := Aside0.mk hc0_12
  clear hr0_12 hc0_12
  have HR1_12 := Aside0.mk hr1_12
  have HC1_12 := Aside0.mk hc1_12
  clear hr1_12 hc1_12
  have HB := Aside0.mk (Below.refl w.heap.size w)
  have H : (if (l0_12.length : Int) = (l1_12.length : Int) then (dovecoteref12_Same.l0 k 0 a0_0 a0_1 a0_2 a0_3 a0_4 a0_5 a0_6 a0_7 a0_8 a0_9 a0_10 a0_11 l0_12 a1_0 a1_1 a1_2 a1_3 a1_4 a1_5 a1_6 a1_7 a1_8 a1_9 a1_10 a1_11 l1_12) else (some false)) = some r := h
  clear h
  by_cases c3 : (l0_12.length : Int) = (l1_12.length : Int)
  · rw [if_pos c3] at H
    have c3b0 : ((l0_12.length : Int) == (l1_12.length : Int)) = true := beq_iff_eq.mpr c3
    have c3b1 : ((l0_12.length : Int) != (l1_12.length : Int)) = false := bne_eq_false_iff_eq.mpr c3
    have c3b2 : (l0_12.length == l1_12.length) = true := by first | simpa using c3 | (simp at c3 ⊢; omega)
    clear c3
    have H' := Aside0.mk H
    clear H
    go_enter Try.func12, Try.ntmps12
    go_wp2_with (first | ((with_reducible refine gate_dst (N := 2) rfl ?_); refine box_event ?hg (N := 2) ?hd (cs := #[.int .i64 a0_0, .int .u32 a0_1, .int .u32 a0_2, .int .u64 a0_3, .int .u32 a0_4, .int .u64 a0_5, .int .u32 a0_6, .int .u64 a0_7, .int .u32 a0_8, .string a0_9, .int .u8 a0_10, .bool a0_11, .slice A0_12 l0_12.length c0_12]) (t := 30) ?hr ?_; (case hd => rfl); (case hg => rfl); (case hr => first | (go_simp; done) | (go_simp; rfl)); intro gb101 hg w4 hbox hb; have n0_ := Aside0.mk (below_step (by repeat (first | (with_reducible first | exact HB.out | apply below_alloc | apply pw_below_drewN | apply below_drew1) | exact HB.out)) hb); have n1_ := Aside0.mk (hbox); have n2_ := Aside0.mk ((by rw [hg]; exact (below_size (by repeat (first | (with_reducible first | exact HB.out | apply below_alloc | apply pw_below_drewN | apply below_drew1) | exact HB.out))) : w.heap.size ≤ gb101)); have n3_ := Aside0.mk ((by rw [hg]; exact (below_size (by repeat (first | (with_reducible first | exact HB.out | apply below_alloc | apply pw_below_drewN | apply below_drew1) | exact HB.out))) : w.heap.size ≤ gb101)); clear HB; have HB := n0_; have BK101 := n1_; have GW101 := n2_; have GE101 := n3_; clear n0_ n1_ n2_ n3_; clear hb hbox hg) | ((with_reducible refine gate_dst (N := 3) rfl ?_); refine box_event ?hg (N := 3) ?hd (cs := #[.int .i64 a1_0, .int .u32 a1_1, .int .u32 a1_2, .int .u64 a1_3, .int .u32 a1_4, .int .u64 a1_5, .int .u32 a1_6, .int .u64 a1_7, .int .u32 a1_8, .string a1_9, .int .u8 a1_10, .bool a1_11, .slice A1_12 l1_12.length c1_12]) (t := 30) ?hr ?_; (case hd => rfl); (case hg => rfl); (case hr => first | (go_simp; done) | (go_simp; rfl)); intro gb102 hg w5 hbox hb; have n0_ := Aside0.mk (blk_below (g := gb101) (o := .cells #[.int .i64 a0_0, .int .u32 a0_1, .int .u32 a0_2, .int .u64 a0_3, .int .u32 a0_4, .int .u64 a0_5, .int .u32 a0_6, .int .u64 a0_7, .int .u32 a0_8, .string a0_9, .int .u8 a0_10, .bool a0_11, .slice A0_12 l0_12.length c0_12] 30 (0, 0)) (by (with_reducible repeat (first | refine blk_drewN ?_ _ | refine blk_drew ?_ | refine blk_alloc ?_ _)); exact BK101.out) hb); have n1_ := Aside0.mk (below_step (by repeat (first | (with_reducible first | exact HB.out | apply below_alloc | apply pw_below_drewN | apply below_drew1 | refine below_set ?_ GE101.out) | exact HB.out)) hb); have n2_ := Aside0.mk (hbox); have n3_ := Aside0.mk ((by rw [hg]; exact (below_size (by repeat (first | (with_reducible first | exact HB.out | apply below_alloc | apply pw_below_drewN | apply below_drew1 | refine below_set ?_ GE101.out) | exact HB.out))) : w.heap.size ≤ gb102)); have n4_ := Aside0.mk ((by rw [hg]; exact (below_size (by repeat (first | (with_reducible first | exact HB.out | apply below_alloc | apply pw_below_drewN | apply below_drew1 | refine below_set ?_ GE101.out) | exact HB.out))) : w.heap.size ≤ gb102)); have n5_ := Aside0.mk ((by rw [hg]; exact Nat.ne_of_lt (blk_lt (g := gb101) (o := .cells #[.int .i64 a0_0, .int .u32 a0_1, .int .u32 a0_2, .int .u64 a0_3, .int .u32 a0_4, .int .u64 a0_5, .int .u32 a0_6, .int .u64 a0_7, .int .u32 a0_8, .string a0_9, .int .u8 a0_10, .bool a0_11, .slice A0_12 l0_12.length c0_12] 30 (0, 0)) (by (with_reducible repeat (first | refine blk_drewN ?_ _ | refine blk_drew ?_ | refine blk_alloc ?_ _)); exact BK101.out)) : gb101 ≠ gb102)); have n6_ := Aside0.mk ((by rw [hg]; exact Nat.ne_of_gt (blk_lt (g := gb101) (o := .cells #[.int .i64 a0_0, .int .u32 a0_1, .int .u32 a0_2, .int .u64 a0_3, .int .u32 a0_4, .int .u64 a0_5, .int .u32 a0_6, .int .u64 a0_7, .int .u32 a0_8, .string a0_9, .int .u8 a0_10, .bool a0_11, .slice A0_12 l0_12.length c0_12] 30 (0, 0)) (by (with_reducible repeat (first | refine blk_drewN ?_ _ | refine blk_drew ?_ | refine blk_alloc ?_ _)); exact BK101.out)) : gb102 ≠ gb101)); clear BK101; clear HB; have BK101 := n0_; have HB := n1_; have BK102 := n2_; have GW102 := n3_; have GE102 := n4_; have NB101_102 := n5_; have NB102_101 := n6_; clear n0_ n1_ n2_ n3_ n4_ n5_ n6_; clear hb hbox hg; have hnb6 := NB101_102.out; have hnc6 := NB102_101.out; have hcz7_0 : w5.cell? ⟨gb101, 0, none⟩ = some (.int .i64 a0_0) := (blk_cell BK101.out 0).trans rfl; have hcz7_1 : w5.cell? ⟨gb101, 1, none⟩ = some (.int .u32 a0_1) := (blk_cell BK101.out 1).trans rfl; have hcz7_2 : w5.cell? ⟨gb101, 2, none⟩ = some (.int .u32 a0_2) := (blk_cell BK101.out 2).trans rfl; have hcz7_3 : w5.cell? ⟨gb101, 3, none⟩ = some (.int .u64 a0_3) := (blk_cell BK101.out 3).trans rfl; have hcz7_4 : w5.cell? ⟨gb101, 4, none⟩ = some (.int .u32 a0_4) := (blk_cell BK101.out 4).trans rfl; have hcz7_5 : w5.cell? ⟨gb101, 5, none⟩ = some (.int .u64 a0_5) := (blk_cell BK101.out 5).trans rfl; have hcz7_6 : w5.cell? ⟨gb101, 6, none⟩ = some (.int .u32 a0_6) := (blk_cell BK101.out 6).trans rfl; have hcz7_7 : w5.cell? ⟨gb101, 7, none⟩ = some (.int .u64 a0_7) := (blk_cell BK101.out 7).trans rfl; have hcz7_8 : w5.cell? ⟨gb101, 8, none⟩ = some (.int .u32 a0_8) := (blk_cell BK101.out 8).trans rfl; have hcz7_9 : w5.cell? ⟨gb101, 9, none⟩ = some (.string a0_9) := (blk_cell BK101.out 9).trans rfl; have hcz7_10 : w5.cell? ⟨gb101, 10, none⟩ = some (.int .u8 a0_10) := (blk_cell BK101.out 10).trans rfl; have hcz7_11 : w5.cell? ⟨gb101, 11, none⟩ = some (.bool a0_11) := (blk_cell BK101.out 11).trans rfl; have hcz7_12 : w5.cell? ⟨gb101, 12, none⟩ = some (.slice A0_12 l0_12.length c0_12) := (blk_cell BK101.out 12).trans rfl; have hfz7_0 := blk_frozen BK101.out 0; have hfz7_1 := blk_frozen BK101.out 1; have hfz7_2 := blk_frozen BK101.out 2; have hfz7_3 := blk_frozen BK101.out 3; have hfz7_4 := blk_frozen BK101.out 4; have hfz7_5 := blk_frozen BK101.out 5; have hfz7_6 := blk_frozen BK101.out 6; have hfz7_7 := blk_frozen BK101.out 7; have hfz7_8 := blk_frozen BK101.out 8; have hfz7_9 := blk_frozen BK101.out 9; have hfz7_10 := blk_frozen BK101.out 10; have hfz7_11 := blk_frozen BK101.out 11; have hfz7_12 := blk_frozen BK101.out 12; have hcz8_0 : w5.cell? ⟨gb102, 0, none⟩ = some (.int .i64 a1_0) := (blk_cell BK102.out 0).trans rfl; have hcz8_1 : w5.cell? ⟨gb102, 1, none⟩ = some (.int .u32 a1_1) := (blk_cell BK102.out 1).trans rfl; have hcz8_2 : w5.cell? ⟨gb102, 2, none⟩ = some (.int .u32 a1_2) := (blk_cell BK102.out 2).trans rfl; have hcz8_3 : w5.cell? ⟨gb102, 3, none⟩ = some (.int .u64 a1_3) := (blk_cell BK102.out 3).trans rfl; have hcz8_4 : w5.cell? ⟨gb102, 4, none⟩ = some (.int .u32 a1_4) := (blk_cell BK102.out 4).trans rfl; have hcz8_5 : w5.cell? ⟨gb102, 5, none⟩ = some (.int .u64 a1_5) := (blk_cell BK102.out 5).trans rfl; have hcz8_6 : w5.cell? ⟨gb102, 6, none⟩ = some (.int .u32 a1_6) := (blk_cell BK102.out 6).trans rfl; have hcz8_7 : w5.cell? ⟨gb102, 7, none⟩ = some (.int .u64 a1_7) := (blk_cell BK102.out 7).trans rfl; have hcz8_8 : w5.cell? ⟨gb102, 8, none⟩ = some (.int .u32 a1_8) := (blk_cell BK102.out 8).trans rfl; have hcz8_9 : w5.cell? ⟨gb102, 9, none⟩ = some (.string a1_9) := (blk_cell BK102.out 9).trans rfl; have hcz8_10 : w5.cell? ⟨gb102, 10, none⟩ = some (.int .u8 a1_10) := (blk_cell BK102.out 10).trans rfl; have hcz8_11 : w5.cell? ⟨gb102, 11, none⟩ = some (.bool a1_11) := (blk_cell BK102.out 11).trans rfl; have hcz8_12 : w5.cell? ⟨gb102, 12, none⟩ = some (.slice A1_12 l1_12.length c1_12) := (blk_cell BK102.out 12).trans rfl; have hfz8_0 := blk_frozen BK102.out 0; have hfz8_1 := blk_frozen BK102.out 1; have hfz8_2 := blk_frozen BK102.out 2; have hfz8_3 := blk_frozen BK102.out 3; have hfz8_4 := blk_frozen BK102.out 4; have hfz8_5 := blk_frozen BK102.out 5; have hfz8_6 := blk_frozen BK102.out 6; have hfz8_7 := blk_frozen BK102.out 7; have hfz8_8 := blk_frozen BK102.out 8; have hfz8_9 := blk_frozen BK102.out 9; have hfz8_10 := blk_frozen BK102.out 10; have hfz8_11 := blk_frozen BK102.out 11; have hfz8_12 := blk_frozen BK102.out 12))
    repeat (go_quiet (first | ((with_reducible refine gate_dst (N := 2) rfl ?_); refine box_event ?hg (N := 2) ?hd (cs := #[.int .i64 a0_0, .int .u32 a0_1, .int .u32 a0_2, .int .u64 a0_3, .int .u32 a0_4, .int .u64 a0_5, .int .u32 a0_6, .int .u64 a0_7, .int .u32 a0_8, .string a0_9, .int .u8 a0_10, .bool a0_11, .slice A0_12 l0_12.length c0_12]) (t := 30) ?hr ?_; (case hd => rfl); (case hg => rfl); (case hr => first | (go_simp; done) | (go_simp; rfl)); intro gb101 hg w4 hbox hb; have n0_ := Aside0.mk (below_step (by repeat (first | (with_reducible first | exact HB.out | apply below_alloc | apply pw_below_drewN | apply below_drew1) | exact HB.out)) hb); have n1_ := Aside0.mk (hbox); have n2_ := Aside0.mk ((by rw [hg]; exact (below_size (by repeat (first | (with_reducible first | exact HB.out | apply below_alloc | apply pw_below_drewN | apply below_drew1) | exact HB.out))) : w.heap.size ≤ gb101)); have n3_ := Aside0.mk ((by rw [hg]; exact (below_size (by repeat (first | (with_reducible first | exact HB.out | apply below_alloc | apply pw_below_drewN | apply below_drew1) | exact HB.out))) : w.heap.size ≤ gb101)); clear HB; have HB := n0_; have BK101 := n1_; have GW101 := n2_; have GE101 := n3_; clear n0_ n1_ n2_ n3_; clear hb hbox hg) | ((with_reducible refine gate_dst (N := 3) rfl ?_); refine box_event ?hg (N := 3) ?hd (cs := #[.int .i64 a1_0, .int .u32 a1_1, .int .u32 a1_2, .int .u64 a1_3, .int .u32 a1_4, .int .u64 a1_5, .int .u32 a1_6, .int .u64 a1_7, .int .u32 a1_8, .string a1_9, .int .u8 a1_10, .bool a1_11, .slice A1_12 l1_12.length c1_12]) (t := 30) ?hr ?_; (case hd => rfl); (case hg => rfl); (case hr => first | (go_simp; done) | (go_simp; rfl)); intro gb102 hg w5 hbox hb; have n0_ := Aside0.mk (blk_below (g := gb101) (o := .cells #[.int .i64 a0_0, .int .u32 a0_1, .int .u32 a0_2, .int .u64 a0_3, .int .u32 a0_4, .int .u64 a0_5, .int .u32 a0_6, .int .u64 a0_7, .int .u32 a0_8, .string a0_9, .int .u8 a0_10, .bool a0_11, .slice A0_12 l0_12.length c0_12] 30 (0, 0)) (by (with_reducible repeat (first | refine blk_drewN ?_ _ | refine blk_drew ?_ | refine blk_alloc ?_ _)); exact BK101.out) hb); have n1_ := Aside0.mk (below_step (by repeat (first | (with_reducible first | exact HB.out | apply below_alloc | apply pw_below_drewN | apply below_drew1 | refine below_set ?_ GE101.out) | exact HB.out)) hb); have n2_ := Aside0.mk (hbox); have n3_ := Aside0.mk ((by rw [hg]; exact (below_size (by repeat (first | (with_reducible first | exact HB.out | apply below_alloc | apply pw_below_drewN | apply below_drew1 | refine below_set ?_ GE101.out) | exact HB.out))) : w.heap.size ≤ gb102)); have n4_ := Aside0.mk ((by rw [hg]; exact (below_size (by repeat (first | (with_reducible first | exact HB.out | apply below_alloc | apply pw_below_drewN | apply below_drew1 | refine below_set ?_ GE101.out) | exact HB.out))) : w.heap.size ≤ gb102)); have n5_ := Aside0.mk ((by rw [hg]; exact Nat.ne_of_lt (blk_lt (g := gb101) (o := .cells #[.int .i64 a0_0, .int .u32 a0_1, .int .u32 a0_2, .int .u64 a0_3, .int .u32 a0_4, .int .u64 a0_5, .int .u32 a0_6, .int .u64 a0_7, .int .u32 a0_8, .string a0_9, .int .u8 a0_10, .bool a0_11, .slice A0_12 l0_12.length c0_12] 30 (0, 0)) (by (with_reducible repeat (first | refine blk_drewN ?_ _ | refine blk_drew ?_ | refine blk_alloc ?_ _)); exact BK101.out)) : gb101 ≠ gb102)); have n6_ := Aside0.mk ((by rw [hg]; exact Nat.ne_of_gt (blk_lt (g := gb101) (o := .cells #[.int .i64 a0_0, .int .u32 a0_1, .int .u32 a0_2, .int .u64 a0_3, .int .u32 a0_4, .int .u64 a0_5, .int .u32 a0_6, .int .u64 a0_7, .int .u32 a0_8, .string a0_9, .int .u8 a0_10, .bool a0_11, .slice A0_12 l0_12.length c0_12] 30 (0, 0)) (by (with_reducible repeat (first | refine blk_drewN ?_ _ | refine blk_drew ?_ | refine blk_alloc ?_ _)); exact BK101.out)) : gb102 ≠ gb101)); clear BK101; clear HB; have BK101 := n0_; have HB := n1_; have BK102 := n2_; have GW102 := n3_; have GE102 := n4_; have NB101_102 := n5_; have NB102_101 := n6_; clear n0_ n1_ n2_ n3_ n4_ n5_ n6_; clear hb hbox hg; have hnb6 := NB101_102.out; have hnc6 := NB102_101.out; have hcz7_0 : w5.cell? ⟨gb101, 0, none⟩ = some (.int .i64 a0_0) := (blk_cell BK101.out 0).trans rfl; have hcz7_1 : w5.cell? ⟨gb101, 1, none⟩ = some (.int .u32 a0_1) := (blk_cell BK101.out 1).trans rfl; have hcz7_2 : w5.cell? ⟨gb101, 2, none⟩ = some (.int .u32 a0_2) := (blk_cell BK101.out 2).trans rfl; have hcz7_3 : w5.cell? ⟨gb101, 3, none⟩ = some (.int .u64 a0_3) := (blk_cell BK101.out 3).trans rfl; have hcz7_4 : w5.cell? ⟨gb101, 4, none⟩ = some (.int .u32 a0_4) := (blk_cell BK101.out 4).trans rfl; have hcz7_5 : w5.cell? ⟨gb101, 5, none⟩ = some (.int .u64 a0_5) := (blk_cell BK101.out 5).trans rfl; have hcz7_6 : w5.cell? ⟨gb101, 6, none⟩ = some (.int .u32 a0_6) := (blk_cell BK101.out 6).trans rfl; have hcz7_7 : w5.cell? ⟨gb101, 7, none⟩ = some (.int .u64 a0_7) := (blk_cell BK101.out 7).trans rfl; have hcz7_8 : w5.cell? ⟨gb101, 8, none⟩ = some (.int .u32 a0_8) := (blk_cell BK101.out 8).trans rfl; have hcz7_9 : w5.cell? ⟨gb101, 9, none⟩ = some (.string a0_9) := (blk_cell BK101.out 9).trans rfl; have hcz7_10 : w5.cell? ⟨gb101, 10, none⟩ = some (.int .u8 a0_10) := (blk_cell BK101.out 10).trans rfl; have hcz7_11 : w5.cell? ⟨gb101, 11, none⟩ = some (.bool a0_11) := (blk_cell BK101.out 11).trans rfl; have hcz7_12 : w5.cell? ⟨gb101, 12, none⟩ = some (.slice A0_12 l0_12.length c0_12) := (blk_cell BK101.out 12).trans rfl; have hfz7_0 := blk_frozen BK101.out 0; have hfz7_1 := blk_frozen BK101.out 1; have hfz7_2 := blk_frozen BK101.out 2; have hfz7_3 := blk_frozen BK101.out 3; have hfz7_4 := blk_frozen BK101.out 4; have hfz7_5 := blk_frozen BK101.out 5; have hfz7_6 := blk_frozen BK101.out 6; have hfz7_7 := blk_frozen BK101.out 7; have hfz7_8 := blk_frozen BK101.out 8; have hfz7_9 := blk_frozen BK101.out 9; have hfz7_10 := blk_frozen BK101.out 10; have hfz7_11 := blk_frozen BK101.out 11; have hfz7_12 := blk_frozen BK101.out 12; have hcz8_0 : w5.cell? ⟨gb102, 0, none⟩ = some (.int .i64 a1_0) := (blk_cell BK102.out 0).trans rfl; have hcz8_1 : w5.cell? ⟨gb102, 1, none⟩ = some (.int .u32 a1_1) := (blk_cell BK102.out 1).trans rfl; have hcz8_2 : w5.cell? ⟨gb102, 2, none⟩ = some (.int .u32 a1_2) := (blk_cell BK102.out 2).trans rfl; have hcz8_3 : w5.cell? ⟨gb102, 3, none⟩ = some (.int .u64 a1_3) := (blk_cell BK102.out 3).trans rfl; have hcz8_4 : w5.cell? ⟨gb102, 4, none⟩ = some (.int .u32 a1_4) := (blk_cell BK102.out 4).trans rfl; have hcz8_5 : w5.cell? ⟨gb102, 5, none⟩ = some (.int .u64 a1_5) := (blk_cell BK102.out 5).trans rfl; have hcz8_6 : w5.cell? ⟨gb102, 6, none⟩ = some (.int .u32 a1_6) := (blk_cell BK102.out 6).trans rfl; have hcz8_7 : w5.cell? ⟨gb102, 7, none⟩ = some (.int .u64 a1_7) := (blk_cell BK102.out 7).trans rfl; have hcz8_8 : w5.cell? ⟨gb102, 8, none⟩ = some (.int .u32 a1_8) := (blk_cell BK102.out 8).trans rfl; have hcz8_9 : w5.cell? ⟨gb102, 9, none⟩ = some (.string a1_9) := (blk_cell BK102.out 9).trans rfl; have hcz8_10 : w5.cell? ⟨gb102, 10, none⟩ = some (.int .u8 a1_10) := (blk_cell BK102.out 10).trans rfl; have hcz8_11 : w5.cell? ⟨gb102, 11, none⟩ = some (.bool a1_11) := (blk_cell BK102.out 11).trans rfl; have hcz8_12 : w5.cell? ⟨gb102, 12, none⟩ = some (.slice A1_12 l1_12.length c1_12) := (blk_cell BK102.out 12).trans rfl; have hfz8_0 := blk_frozen BK102.out 0; have hfz8_1 := blk_frozen BK102.out 1; have hfz8_2 := blk_frozen BK102.out 2; have hfz8_3 := blk_frozen BK102.out 3; have hfz8_4 := blk_frozen BK102.out 4; have hfz8_5 := blk_frozen BK102.out 5; have hfz8_6 := blk_frozen BK102.out 6; have hfz8_7 := blk_frozen BK102.out 7; have hfz8_8 := blk_frozen BK102.out 8; have hfz8_9 := blk_frozen BK102.out 9; have hfz8_10 := blk_frozen BK102.out 10; have hfz8_11 := blk_frozen BK102.out 11; have hfz8_12 := blk_frozen BK102.out 12)); try go_wp2_with (first | ((with_reducible refine gate_dst (N := 2) rfl ?_); refine box_event ?hg (N := 2) ?hd (cs := #[.int .i64 a0_0, .int .u32 a0_1, .int .u32 a0_2, .int .u64 a0_3, .int .u32 a0_4, .int .u64 a0_5, .int .u32 a0_6, .int .u64 a0_7, .int .u32 a0_8, .string a0_9, .int .u8 a0_10, .bool a0_11, .slice A0_12 l0_12.length c0_12]) (t := 30) ?hr ?_; (case hd => rfl); (case hg => rfl); (case hr => first | (go_simp; done) | (go_simp; rfl)); intro gb101 hg w4 hbox hb; have n0_ := Aside0.mk (below_step (by repeat (first | (with_reducible first | exact HB.out | apply below_alloc | apply pw_below_drewN | apply below_drew1) | exact HB.out)) hb); have n1_ := Aside0.mk (hbox); have n2_ := Aside0.mk ((by rw [hg]; exact (below_size (by repeat (first | (with_reducible first | exact HB.out | apply below_alloc | apply pw_below_drewN | apply below_drew1) | exact HB.out))) : w.heap.size ≤ gb101)); have n3_ := Aside0.mk ((by rw [hg]; exact (below_size (by repeat (first | (with_reducible first | exact HB.out | apply below_alloc | apply pw_below_drewN | apply below_drew1) | exact HB.out))) : w.heap.size ≤ gb101)); clear HB; have HB := n0_; have BK101 := n1_; have GW101 := n2_; have GE101 := n3_; clear n0_ n1_ n2_ n3_; clear hb hbox hg) | ((with_reducible refine gate_dst (N := 3) rfl ?_); refine box_event ?hg (N := 3) ?hd (cs := #[.int .i64 a1_0, .int .u32 a1_1, .int .u32 a1_2, .int .u64 a1_3, .int .u32 a1_4, .int .u64 a1_5, .int .u32 a1_6, .int .u64 a1_7, .int .u32 a1_8, .string a1_9, .int .u8 a1_10, .bool a1_11, .slice A1_12 l1_12.length c1_12]) (t := 30) ?hr ?_; (case hd => rfl); (case hg => rfl); (case hr => first | (go_simp; done) | (go_simp; rfl)); intro gb102 hg w5 hbox hb; have n0_ := Aside0.mk (blk_below (g := gb101) (o := .cells #[.int .i64 a0_0, .int .u32 a0_1, .int .u32 a0_2, .int .u64 a0_3, .int .u32 a0_4, .int .u64 a0_5, .int .u32 a0_6, .int .u64 a0_7, .int .u32 a0_8, .string a0_9, .int .u8 a0_10, .bool a0_11, .slice A0_12 l0_12.length c0_12] 30 (0, 0)) (by (with_reducible repeat (first | refine blk_drewN ?_ _ | refine blk_drew ?_ | refine blk_alloc ?_ _)); exact BK101.out) hb); have n1_ := Aside0.mk (below_step (by repeat (first | (with_reducible first | exact HB.out | apply below_alloc | apply pw_below_drewN | apply below_drew1 | refine below_set ?_ GE101.out) | exact HB.out)) hb); have n2_ := Aside0.mk (hbox); have n3_ := Aside0.mk ((by rw [hg]; exact (below_size (by repeat (first | (with_reducible first | exact HB.out | apply below_alloc | apply pw_below_drewN | apply below_drew1 | refine below_set ?_ GE101.out) | exact HB.out))) : w.heap.size ≤ gb102)); have n4_ := Aside0.mk ((by rw [hg]; exact (below_size (by repeat (first | (with_reducible first | exact HB.out | apply below_alloc | apply pw_below_drewN | apply below_drew1 | refine below_set ?_ GE101.out) | exact HB.out))) : w.heap.size ≤ gb102)); have n5_ := Aside0.mk ((by rw [hg]; exact Nat.ne_of_lt (blk_lt (g := gb101) (o := .cells #[.int .i64 a0_0, .int .u32 a0_1, .int .u32 a0_2, .int .u64 a0_3, .int .u32 a0_4, .int .u64 a0_5, .int .u32 a0_6, .int .u64 a0_7, .int .u32 a0_8, .string a0_9, .int .u8 a0_10, .bool a0_11, .slice A0_12 l0_12.length c0_12] 30 (0, 0)) (by (with_reducible repeat (first | refine blk_drewN ?_ _ | refine blk_drew ?_ | refine blk_alloc ?_ _)); exact BK101.out)) : gb101 ≠ gb102)); have n6_ := Aside0.mk ((by rw [hg]; exact Nat.ne_of_gt (blk_lt (g := gb101) (o := .cells #[.int .i64 a0_0, .int .u32 a0_1, .int .u32 a0_2, .int .u64 a0_3, .int .u32 a0_4, .int .u64 a0_5, .int .u32 a0_6, .int .u64 a0_7, .int .u32 a0_8, .string a0_9, .int .u8 a0_10, .bool a0_11, .slice A0_12 l0_12.length c0_12] 30 (0, 0)) (by (with_reducible repeat (first | refine blk_drewN ?_ _ | refine blk_drew ?_ | refine blk_alloc ?_ _)); exact BK101.out)) : gb102 ≠ gb101)); clear BK101; clear HB; have BK101 := n0_; have HB := n1_; have BK102 := n2_; have GW102 := n3_; have GE102 := n4_; have NB101_102 := n5_; have NB102_101 := n6_; clear n0_ n1_ n2_ n3_ n4_ n5_ n6_; clear hb hbox hg; have hnb6 := NB101_102.out; have hnc6 := NB102_101.out; have hcz7_0 : w5.cell? ⟨gb101, 0, none⟩ = some (.int .i64 a0_0) := (blk_cell BK101.out 0).trans rfl; have hcz7_1 : w5.cell? ⟨gb101, 1, none⟩ = some (.int .u32 a0_1) := (blk_cell BK101.out 1).trans rfl; have hcz7_2 : w5.cell? ⟨gb101, 2, none⟩ = some (.int .u32 a0_2) := (blk_cell BK101.out 2).trans rfl; have hcz7_3 : w5.cell? ⟨gb101, 3, none⟩ = some (.int .u64 a0_3) := (blk_cell BK101.out 3).trans rfl; have hcz7_4 : w5.cell? ⟨gb101, 4, none⟩ = some (.int .u32 a0_4) := (blk_cell BK101.out 4).trans rfl; have hcz7_5 : w5.cell? ⟨gb101, 5, none⟩ = some (.int .u64 a0_5) := (blk_cell BK101.out 5).trans rfl; have hcz7_6 : w5.cell? ⟨gb101, 6, none⟩ = some (.int .u32 a0_6) := (blk_cell BK101.out 6).trans rfl; have hcz7_7 : w5.cell? ⟨gb101, 7, none⟩ = some (.int .u64 a0_7) := (blk_cell BK101.out 7).trans rfl; have hcz7_8 : w5.cell? ⟨gb101, 8, none⟩ = some (.int .u32 a0_8) := (blk_cell BK101.out 8).trans rfl; have hcz7_9 : w5.cell? ⟨gb101, 9, none⟩ = some (.string a0_9) := (blk_cell BK101.out 9).trans rfl; have hcz7_10 : w5.cell? ⟨gb101, 10, none⟩ = some (.int .u8 a0_10) := (blk_cell BK101.out 10).trans rfl; have hcz7_11 : w5.cell? ⟨gb101, 11, none⟩ = some (.bool a0_11) := (blk_cell BK101.out 11).trans rfl; have hcz7_12 : w5.cell? ⟨gb101, 12, none⟩ = some (.slice A0_12 l0_12.length c0_12) := (blk_cell BK101.out 12).trans rfl; have hfz7_0 := blk_frozen BK101.out 0; have hfz7_1 := blk_frozen BK101.out 1; have hfz7_2 := blk_frozen BK101.out 2; have hfz7_3 := blk_frozen BK101.out 3; have hfz7_4 := blk_frozen BK101.out 4; have hfz7_5 := blk_frozen BK101.out 5; have hfz7_6 := blk_frozen BK101.out 6; have hfz7_7 := blk_frozen BK101.out 7; have hfz7_8 := blk_frozen BK101.out 8; have hfz7_9 := blk_frozen BK101.out 9; have hfz7_10 := blk_frozen BK101.out 10; have hfz7_11 := blk_frozen BK101.out 11; have hfz7_12 := blk_frozen BK101.out 12; have hcz8_0 : w5.cell? ⟨gb102, 0, none⟩ = some (.int .i64 a1_0) := (blk_cell BK102.out 0).trans rfl; have hcz8_1 : w5.cell? ⟨gb102, 1, none⟩ = some (.int .u32 a1_1) := (blk_cell BK102.out 1).trans rfl; have hcz8_2 : w5.cell? ⟨gb102, 2, none⟩ = some (.int .u32 a1_2) := (blk_cell BK102.out 2).trans rfl; have hcz8_3 : w5.cell? ⟨gb102, 3, none⟩ = some (.int .u64 a1_3) := (blk_cell BK102.out 3).trans rfl; have hcz8_4 : w5.cell? ⟨gb102, 4, none⟩ = some (.int .u32 a1_4) := (blk_cell BK102.out 4).trans rfl; have hcz8_5 : w5.cell? ⟨gb102, 5, none⟩ = some (.int .u64 a1_5) := (blk_cell BK102.out 5).trans rfl; have hcz8_6 : w5.cell? ⟨gb102, 6, none⟩ = some (.int .u32 a1_6) := (blk_cell BK102.out 6).trans rfl; have hcz8_7 : w5.cell? ⟨gb102, 7, none⟩ = some (.int .u64 a1_7) := (blk_cell BK102.out 7).trans rfl; have hcz8_8 : w5.cell? ⟨gb102, 8, none⟩ = some (.int .u32 a1_8) := (blk_cell BK102.out 8).trans rfl; have hcz8_9 : w5.cell? ⟨gb102, 9, none⟩ = some (.string a1_9) := (blk_cell BK102.out 9).trans rfl; have hcz8_10 : w5.cell? ⟨gb102, 10, none⟩ = some (.int .u8 a1_10) := (blk_cell BK102.out 10).trans rfl; have hcz8_11 : w5.cell? ⟨gb102, 11, none⟩ = some (.bool a1_11) := (blk_cell BK102.out 11).trans rfl; have hcz8_12 : w5.cell? ⟨gb102, 12, none⟩ = some (.slice A1_12 l1_12.length c1_12) := (blk_cell BK102.out 12).trans rfl; have hfz8_0 := blk_frozen BK102.out 0; have hfz8_1 := blk_frozen BK102.out 1; have hfz8_2 := blk_frozen BK102.out 2; have hfz8_3 := blk_frozen BK102.out 3; have hfz8_4 := blk_frozen BK102.out 4; have hfz8_5 := blk_frozen BK102.out 5; have hfz8_6 := blk_frozen BK102.out 6; have hfz8_7 := blk_frozen BK102.out 7; have hfz8_8 := blk_frozen BK102.out 8; have hfz8_9 := blk_frozen BK102.out 9; have hfz8_10 := blk_frozen BK102.out 10; have hfz8_11 := blk_frozen BK102.out 11; have hfz8_12 := blk_frozen BK102.out 12)))
    go_loopg [5] k (fun kq v5 w' => ∃ (x5_1 : Int), v5 = .int .i64 x5_1 ∧ Aside0 (dovecoteref12_Same.l0 kq x5_1 a0_0 a0_1 a0_2 a0_3 a0_4 a0_5 a0_6 a0_7 a0_8 a0_9 a0_10 a0_11 l0_12 a1_0 a1_1 a1_2 a1_3 a1_4 a1_5 a1_6 a1_7 a1_8 a1_9 a1_10 a1_11 l1_12 = some r) ∧ Aside0 (kq ≤ k) ∧ Aside0 (w'.heap[gb101]? = some (.cells #[.int .i64 a0_0, .int .u32 a0_1, .int .u32 a0_2, .int .u64 a0_3, .int .u32 a0_4, .int .u64 a0_5, .int .u32 a0_6, .int .u64 a0_7, .int .u32 a0_8, .string a0_9, .int .u8 a0_10, .bool a0_11, (.slice A0_12 l0_12.length c0_12)] 30 (0, 0))) ∧ Aside0 (w'.heap[gb102]? = some (.cells #[.int .i64 a1_0, .int .u32 a1_1, .int .u32 a1_2, .int .u64 a1_3, .int .u32 a1_4, .int .u64 a1_5, .int .u32 a1_6, .int .u64 a1_7, .int .u32 a1_8, .string a1_9, .int .u8 a1_10, .bool a1_11, (.slice A1_12 l1_12.length c1_12)] 30 (0, 0))) ∧ Aside0 (Below w.heap.size w w'))
    case atStart => exact ⟨(0), (by first | rfl | (simp; done) | (simp [*]; done)), H', ⟨Nat.le_refl _⟩, ⟨by (with_reducible repeat (first | refine blk_drewN ?_ _ | refine blk_drew ?_ | refine blk_alloc ?_ _)); exact BK101.out⟩, ⟨by (with_reducible repeat (first | refine blk_drewN ?_ _ | refine blk_drew ?_ | refine blk_alloc ?_ _)); exact BK102.out⟩, ⟨by repeat (first | (with_reducible first | exact HB.out | apply below_alloc | apply pw_below_drewN | apply below_drew1 | refine below_set ?_ GE101.out | refine below_set ?_ GE102.out) | exact HB.out)⟩⟩
    case round =>
      clear H'
      try clear c1
      try clear p2
      try clear c3
      try clear c3b0
      try clear c3b1
      try clear c3b2
      try clear c6
      try clear hcz7_0
      try clear hcz7_1
      try clear hcz7_10
      try clear hcz7_11
      try clear hcz7_12
      try clear hcz7_2
      try clear hcz7_3
      try clear hcz7_4
      try clear hcz7_5
      try clear hcz7_6
      try clear hcz7_7
      try clear hcz7_8
      try clear hcz7_9
      try clear hcz8_0
      try clear hcz8_1
      try clear hcz8_10
      try clear hcz8_11
      try clear hcz8_12
      try clear hcz8_2
      try clear hcz8_3
      try clear hcz8_4
      try clear hcz8_5
      try clear hcz8_6
      try clear hcz8_7
      try clear hcz8_8
      try clear hcz8_9
      try clear hfz7_0
      try clear hfz7_1
      try clear hfz7_10
      try clear hfz7_11
      try clear hfz7_12
      try clear hfz7_2
      try clear hfz7_3
      try clear hfz7_4
      try clear hfz7_5
      try clear hfz7_6
      try clear hfz7_7
      try clear hfz7_8
      try clear hfz7_9
      try clear hfz8_0
      try clear hfz8_1
      try clear hfz8_10
      try clear hfz8_11
      try clear hfz8_12
      try clear hfz8_2
      try clear hfz8_3
      try clear hfz8_4
      try clear hfz8_5
      try clear hfz8_6
      try clear hfz8_7
      try clear hfz8_8
      try clear hfz8_9
      obtain ⟨x5_1, rfl, HA, HK1, BK101, BK102, HB⟩ := hrel
      cases gk with
      | zero => exact absurd HA.out (by simp [dovecoteref12_Same.l0])
      | succ k1 =>
        have H := HA.out
        clear HA
        simp only [dovecoteref12_Same.l0] at H
        by_cases c9 : x5_1 < (l0_12.length : Int)
        · rw [if_pos c9] at H
          have c9b0 : decide (x5_1 < (l0_12.length : Int)) = true := decide_eq_true c9
          clear c9
          by_cases c10 : 0 ≤ x5_1
          · rw [if_pos c10] at H
            have c10b0 : decide (0 ≤ x5_1) = true := decide_eq_true c10
            clear c10
            by_cases c11 : x5_1 < (l1_12.length : Int)
            · rw [if_pos c11] at H
              have c11b0 : decide (x5_1 < (l1_12.length : Int)) = true := decide_eq_true c11
              clear c11
              by_cases c12 : (!((((rd_T54 l0_12 x5_1).f0).toList) == (((rd_T54 l1_12 x5_1).f0).toList)) || (!((((rd_T54 l0_12 x5_1).f1).toList) == (((rd_T54 l1_12 x5_1).f1).toList)) || (!(((rd_T54 l0_12 x5_1).f2) == ((rd_T54 l1_12 x5_1).f2))))) = true
              · rw [if_pos c12] at H
                have c12b0 : (!((((rd_T54 l0_12 x5_1).f0).toList) == (((rd_T54 l1_12 x5_1).f0).toList)) || (!((((rd_T54 l0_12 x5_1).f1).toList) == (((rd_T54 l1_12 x5_1).f1).toList)) || (!(((rd_T54 l0_12 x5_1).f2) == ((rd_T54 l1_12 x5_1).f2))))) = true := c12
                clear c12
                obtain rfl := Option.some.inj H
                have hnb13 := NB101_102.out
                have hnc13 := NB102_101.out
                have hcz14_0 : wr.cell? ⟨gb101, 0, none⟩ = some (.int .i64 a0_0) := (blk_cell BK101.out 0).trans rfl
                have hcz14_1 : wr.cell? ⟨gb101, 1, none⟩ = some (.int .u32 a0_1) := (blk_cell BK101.out 1).trans rfl
                have hcz14_2 : wr.cell? ⟨gb101, 2, none⟩ = some (.int .u32 a0_2) := (blk_cell BK101.out 2).trans rfl
                have hcz14_3 : wr.cell? ⟨gb101, 3, none⟩ = some (.int .u64 a0_3) := (blk_cell BK101.out 3).trans rfl
                have hcz14_4 : wr.cell? ⟨gb101, 4, none⟩ = some (.int .u32 a0_4) := (blk_cell BK101.out 4).trans rfl
                have hcz14_5 : wr.cell? ⟨gb101, 5, none⟩ = some (.int .u64 a0_5) := (blk_cell BK101.out 5).trans rfl
                have hcz14_6 : wr.cell? ⟨gb101, 6, none⟩ = some (.int .u32 a0_6) := (blk_cell BK101.out 6).trans rfl
                have hcz14_7 : wr.cell? ⟨gb101, 7, none⟩ = some (.int .u64 a0_7) := (blk_cell BK101.out 7).trans rfl
                have hcz14_8 : wr.cell? ⟨gb101, 8, none⟩ = some (.int .u32 a0_8) := (blk_cell BK101.out 8).trans rfl
                have hcz14_9 : wr.cell? ⟨gb101, 9, none⟩ = some (.string a0_9) := (blk_cell BK101.out 9).trans rfl
                have hcz14_10 : wr.cell? ⟨gb101, 10, none⟩ = some (.int .u8 a0_10) := (blk_cell BK101.out 10).trans rfl
                have hcz14_11 : wr.cell? ⟨gb101, 11, none⟩ = some (.bool a0_11) := (blk_cell BK101.out 11).trans rfl
                have hcz14_12 : wr.cell? ⟨gb101, 12, none⟩ = some (.slice A0_12 l0_12.length c0_12) := (blk_cell BK101.out 12).trans rfl
                have hfz14_0 := blk_frozen BK101.out 0
                have hfz14_1 := blk_frozen BK101.out 1
                have hfz14_2 := blk_frozen BK101.out 2
                have hfz14_3 := blk_frozen BK101.out 3
                have hfz14_4 := blk_frozen BK101.out 4
                have hfz14_5 := blk_frozen BK101.out 5
                have hfz14_6 := blk_frozen BK101.out 6
                have hfz14_7 := blk_frozen BK101.out 7
                have hfz14_8 := blk_frozen BK101.out 8
                have hfz14_9 := blk_frozen BK101.out 9
                have hfz14_10 := blk_frozen BK101.out 10
                have hfz14_11 := blk_frozen BK101.out 11
                have hfz14_12 := blk_frozen BK101.out 12
                have p103 : 0 ≤ (x5_1 : Int) := of_decide_eq_true (by first | (with_reducible assumption) | assumption)
                have q103 : x5_1 < (l0_12.length : Int) := of_decide_eq_true (by first | (with_reducible assumption) | assumption)
                obtain ⟨ad103, e103, hx103_0, hx103_1, hx103_2⟩ := at_T54 HR0_12.out x5_1 p103 q103
                cases e103
                replace hx103_0 := (HB.out.cell (World.block_lt_of_cell? w _ hx103_0)).trans hx103_0
                replace hx103_1 := (HB.out.cell (World.block_lt_of_cell? w _ hx103_1)).trans hx103_1
                replace hx103_2 := (HB.out.cell (World.block_lt_of_cell? w _ hx103_2)).trans hx103_2
                replace p103 := eq_true p103
                replace q103 := eq_true q103
                have hcz15_0 : wr.cell? ⟨gb102, 0, none⟩ = some (.int .i64 a1_0) := (blk_cell BK102.out 0).trans rfl
                have hcz15_1 : wr.cell? ⟨gb102, 1, none⟩ = some (.int .u32 a1_1) := (blk_cell BK102.out 1).trans rfl
                have hcz15_2 : wr.cell? ⟨gb102, 2, none⟩ = some (.int .u32 a1_2) := (blk_cell BK102.out 2).trans rfl
                have hcz15_3 : wr.cell? ⟨gb102, 3, none⟩ = some (.int .u64 a1_3) := (blk_cell BK102.out 3).trans rfl
                have hcz15_4 : wr.cell? ⟨gb102, 4, none⟩ = some (.int .u32 a1_4) := (blk_cell BK102.out 4).trans rfl
                have hcz15_5 : wr.cell? ⟨gb102, 5, none⟩ = some (.int .u64 a1_5) := (blk_cell BK102.out 5).trans rfl
                have hcz15_6 : wr.cell? ⟨gb102, 6, none⟩ = some (.int .u32 a1_6) := (blk_cell BK102.out 6).trans rfl
                have hcz15_7 : wr.cell? ⟨gb102, 7, none⟩ = some (.int .u64 a1_7) := (blk_cell BK102.out 7).trans rfl
                have hcz15_8 : wr.cell? ⟨gb102, 8, none⟩ = some (.int .u32 a1_8) := (blk_cell BK102.out 8).trans rfl
                have hcz15_9 : wr.cell? ⟨gb102, 9, none⟩ = some (.string a1_9) := (blk_cell BK102.out 9).trans rfl
                have hcz15_10 : wr.cell? ⟨gb102, 10, none⟩ = some (.int .u8 a1_10) := (blk_cell BK102.out 10).trans rfl
                have hcz15_11 : wr.cell? ⟨gb102, 11, none⟩ = some (.bool a1_11) := (blk_cell BK102.out 11).trans rfl
                have hcz15_12 : wr.cell? ⟨gb102, 12, none⟩ = some (.slice A1_12 l1_12.length c1_12) := (blk_cell BK102.out 12).trans rfl
                have hfz15_0 := blk_frozen BK102.out 0
                have hfz15_1 := blk_frozen BK102.out 1
                have hfz15_2 := blk_frozen BK102.out 2
                have hfz15_3 := blk_frozen BK102.out 3
                have hfz15_4 := blk_frozen BK102.out 4
                have hfz15_5 := blk_frozen BK102.out 5
                have hfz15_6 := blk_frozen BK102.out 6
                have hfz15_7 := blk_frozen BK102.out 7
                have hfz15_8 := blk_frozen BK102.out 8
                have hfz15_9 := blk_frozen BK102.out 9
                have hfz15_10 := blk_frozen BK102.out 10
                have hfz15_11 := blk_frozen BK102.out 11
                have hfz15_12 := blk_frozen BK102.out 12
                have p104 : 0 ≤ (x5_1 : Int) := of_decide_eq_true (by first | (with_reducible assumption) | assumption)
                have q104 : x5_1 < (l1_12.length : Int) := of_decide_eq_true (by first | (with_reducible assumption) | assumption)
                obtain ⟨ad104, e104, hx104_0, hx104_1, hx104_2⟩ := at_T54 HR1_12.out x5_1 p104 q104
                cases e104
                replace hx104_0 := (HB.out.cell (World.block_lt_of_cell? w _ hx104_0)).trans hx104_0
                replace hx104_1 := (HB.out.cell (World.block_lt_of_cell? w _ hx104_1)).trans hx104_1
                replace hx104_2 := (HB.out.cell (World.block_lt_of_cell? w _ hx104_2)).trans hx104_2
                replace p104 := eq_true p104
                replace q104 := eq_true q104
                go_wp2
                repeat (go_quiet (fail); try go_wp2)
                go_ret
                exact ⟨by first | rfl | (simp [errW_none, errW_some] <;> rfl) | (simp [*, errW_none, errW_some] <;> rfl), by repeat (first | (with_reducible first | exact HB.out | apply below_alloc | apply pw_below_drewN | apply below_drew1 | refine below_set ?_ GE101.out | refine below_set ?_ GE102.out) | exact HB.out)⟩
              · rw [if_neg c12] at H
                have c12b0 : (!((((rd_T54 l0_12 x5_1).f0).toList) == (((rd_T54 l1_12 x5_1).f0).toList)) || (!((((rd_T54 l0_12 x5_1).f1).toList) == (((rd_T54 l1_12 x5_1).f1).toList)) || (!(((rd_T54 l0_12 x5_1).f2) == ((rd_T54 l1_12 x5_1).f2))))) = false := by simpa using c12
                clear c12
                have H' := Aside0.mk H
                clear H
                have hnb16 := NB101_102.out
                have hnc16 := NB102_101.out
                have hcz17_0 : wr.cell? ⟨gb101, 0, none⟩ = some (.int .i64 a0_0) := (blk_cell BK101.out 0).trans rfl
                have hcz17_1 : wr.cell? ⟨gb101, 1, none⟩ = some (.int .u32 a0_1) := (blk_cell BK101.out 1).trans rfl
                have hcz17_2 : wr.cell? ⟨gb101, 2, none⟩ = some (.int .u32 a0_2) := (blk_cell BK101.out 2).trans rfl
                have hcz17_3 : wr.cell? ⟨gb101, 3, none⟩ = some (.int .u64 a0_3) := (blk_cell BK101.out 3).trans rfl
                have hcz17_4 : wr.cell? ⟨gb101, 4, none⟩ = some (.int .u32 a0_4) := (blk_cell BK101.out 4).trans rfl
                have hcz17_5 : wr.cell? ⟨gb101, 5, none⟩ = some (.int .u64 a0_5) := (blk_cell BK101.out 5).trans rfl
                have hcz17_6 : wr.cell? ⟨gb101, 6, none⟩ = some (.int .u32 a0_6) := (blk_cell BK101.out 6).trans rfl
                have hcz17_7 : wr.cell? ⟨gb101, 7, none⟩ = some (.int .u64 a0_7) := (blk_cell BK101.out 7).trans rfl
                have hcz17_8 : wr.cell? ⟨gb101, 8, none⟩ = some (.int .u32 a0_8) := (blk_cell BK101.out 8).trans rfl
                have hcz17_9 : wr.cell? ⟨gb101, 9, none⟩ = some (.string a0_9) := (blk_cell BK101.out 9).trans rfl
                have hcz17_10 : wr.cell? ⟨gb101, 10, none⟩ = some (.int .u8 a0_10) := (blk_cell BK101.out 10).trans rfl
                have hcz17_11 : wr.cell? ⟨gb101, 11, none⟩ = some (.bool a0_11) := (blk_cell BK101.out 11).trans rfl
                have hcz17_12 : wr.cell? ⟨gb101, 12, none⟩ = some (.slice A0_12 l0_12.length c0_12) := (blk_cell BK101.out 12).trans rfl
                have hfz17_0 := blk_frozen BK101.out 0
                have hfz17_1 := blk_frozen BK101.out 1
                have hfz17_2 := blk_frozen BK101.out 2
                have hfz17_3 := blk_frozen BK101.out 3
                have hfz17_4 := blk_frozen BK101.out 4
                have hfz17_5 := blk_frozen BK101.out 5
                have hfz17_6 := blk_frozen BK101.out 6
                have hfz17_7 := blk_frozen BK101.out 7
                have hfz17_8 := blk_frozen BK101.out 8
                have hfz17_9 := blk_frozen BK101.out 9
                have hfz17_10 := blk_frozen BK101.out 10
                have hfz17_11 := blk_frozen BK101.out 11
                have hfz17_12 := blk_frozen BK101.out 12
                have p103 : 0 ≤ (x5_1 : Int) := of_decide_eq_true (by first | (with_reducible assumption) | assumption)
                have q103 : x5_1 < (l0_12.length : Int) := of_decide_eq_true (by first | (with_reducible assumption) | assumption)
                obtain ⟨ad103, e103, hx103_0, hx103_1, hx103_2⟩ := at_T54 HR0_12.out x5_1 p103 q103
                cases e103
                replace hx103_0 := (HB.out.cell (World.block_lt_of_cell? w _ hx103_0)).trans hx103_0
                replace hx103_1 := (HB.out.cell (World.block_lt_of_cell? w _ hx103_1)).trans hx103_1
                replace hx103_2 := (HB.out.cell (World.block_lt_of_cell? w _ hx103_2)).trans hx103_2
                replace p103 := eq_true p103
                replace q103 := eq_true q103
                have hcz18_0 : wr.cell? ⟨gb102, 0, none⟩ = some (.int .i64 a1_0) := (blk_cell BK102.out 0).trans rfl
                have hcz18_1 : wr.cell? ⟨gb102, 1, none⟩ = some (.int .u32 a1_1) := (blk_cell BK102.out 1).trans rfl
                have hcz18_2 : wr.cell? ⟨gb102, 2, none⟩ = some (.int .u32 a1_2) := (blk_cell BK102.out 2).trans rfl
                have hcz18_3 : wr.cell? ⟨gb102, 3, none⟩ = some (.int .u64 a1_3) := (blk_cell BK102.out 3).trans rfl
                have hcz18_4 : wr.cell? ⟨gb102, 4, none⟩ = some (.int .u32 a1_4) := (blk_cell BK102.out 4).trans rfl
                have hcz18_5 : wr.cell? ⟨gb102, 5, none⟩ = some (.int .u64 a1_5) := (blk_cell BK102.out 5).trans rfl
                have hcz18_6 : wr.cell? ⟨gb102, 6, none⟩ = some (.int .u32 a1_6) := (blk_cell BK102.out 6).trans rfl
                have hcz18_7 : wr.cell? ⟨gb102, 7, none⟩ = some (.int .u64 a1_7) := (blk_cell BK102.out 7).trans rfl
                have hcz18_8 : wr.cell? ⟨gb102, 8, none⟩ = some (.int .u32 a1_8) := (blk_cell BK102.out 8).trans rfl
                have hcz18_9 : wr.cell? ⟨gb102, 9, none⟩ = some (.string a1_9) := (blk_cell BK102.out 9).trans rfl
                have hcz18_10 : wr.cell? ⟨gb102, 10, none⟩ = some (.int .u8 a1_10) := (blk_cell BK102.out 10).trans rfl
                have hcz18_11 : wr.cell? ⟨gb102, 11, none⟩ = some (.bool a1_11) := (blk_cell BK102.out 11).trans rfl
                have hcz18_12 : wr.cell? ⟨gb102, 12, none⟩ = some (.slice A1_12 l1_12.length c1_12) := (blk_cell BK102.out 12).trans rfl
                have hfz18_0 := blk_frozen BK102.out 0
                have hfz18_1 := blk_frozen BK102.out 1
                have hfz18_2 := blk_frozen BK102.out 2
                have hfz18_3 := blk_frozen BK102.out 3
                have hfz18_4 := blk_frozen BK102.out 4
                have hfz18_5 := blk_frozen BK102.out 5
                have hfz18_6 := blk_frozen BK102.out 6
                have hfz18_7 := blk_frozen BK102.out 7
                have hfz18_8 := blk_frozen BK102.out 8
                have hfz18_9 := blk_frozen BK102.out 9
                have hfz18_10 := blk_frozen BK102.out 10
                have hfz18_11 := blk_frozen BK102.out 11
                have hfz18_12 := blk_frozen BK102.out 12
                have p104 : 0 ≤ (x5_1 : Int) := of_decide_eq_true (by first | (with_reducible assumption) | assumption)
                have q104 : x5_1 < (l1_12.length : Int) := of_decide_eq_true (by first | (with_reducible assumption) | assumption)
                obtain ⟨ad104, e104, hx104_0, hx104_1, hx104_2⟩ := at_T54 HR1_12.out x5_1 p104 q104
                cases e104
                replace hx104_0 := (HB.out.cell (World.block_lt_of_cell? w _ hx104_0)).trans hx104_0
                replace hx104_1 := (HB.out.cell (World.block_lt_of_cell? w _ hx104_1)).trans hx104_1
                replace hx104_2 := (HB.out.cell (World.block_lt_of_cell? w _ hx104_2)).trans hx104_2
                replace p104 := eq_true p104
                replace q104 := eq_true q104
                go_wp2
                repeat (go_quiet (fail); try go_wp2)
                go_roundg k1
                case measure => have := HK1.out; omega
                case rel => exact ⟨(wrap64 (x5_1 + 1)), (by first | rfl | (simp; done) | (simp [*]; done)), H', ⟨by have := HK1.out; omega⟩, ⟨by (with_reducible repeat (first | refine blk_drewN ?_ _ | refine blk_drew ?_ | refine blk_alloc ?_ _)); exact BK101.out⟩, ⟨by (with_reducible repeat (first | refine blk_drewN ?_ _ | refine blk_drew ?_ | refine blk_alloc ?_ _)); exact BK102.out⟩, ⟨by repeat (first | (with_reducible first | exact HB.out | apply below_alloc | apply pw_below_drewN | apply below_drew1 | refine below_set ?_ GE101.out | refine below_set ?_ GE102.out) | exact HB.out)⟩⟩
            · rw [if_neg c11] at H
              exact absurd H (by simp)
          · rw [if_neg c10] at H
            exact absurd H (by simp)
        · rw [if_neg c9] at H
          have c9b0 : decide (x5_1 < (l0_12.length : Int)) = false := decide_eq_false c9
          clear c9
          by_cases c19 : a0_0 = a1_0
          · rw [if_pos c19] at H
            have c19b0 : (a0_0 == a1_0) = true := beq_iff_eq.mpr c19
            have c19b1 : (a0_0 != a1_0) = false := bne_eq_false_iff_eq.mpr c19
            clear c19
            by_cases c20 : (a0_1 == a1_1 && (a0_2 == a1_2)) = true
            · rw [if_pos c20] at H
              have c20b0 : (a0_1 == a1_1 && (a0_2 == a1_2)) = true := c20
              (try (have c20b1 : decide (a0_1 = a1_1 && (a0_2 == a1_2)) = true := by simpa using c20))
              (try (have c20b2 : (a0_1 == a1_1 && (a0_2 == a1_2)) = true := by simpa using c20))
              clear c20
              by_cases c21 : (a0_3 == a1_3 && (a0_4 == a1_4)) = true
              · rw [if_pos c21] at H
                have c21b0 : (a0_3 == a1_3 && (a0_4 == a1_4)) = true := c21
                (try (have c21b1 : decide (a0_3 = a1_3 && (a0_4 == a1_4)) = true := by simpa using c21))
                (try (have c21b2 : (a0_3 == a1_3 && (a0_4 == a1_4)) = true := by simpa using c21))
                clear c21
                by_cases c22 : (a0_5 == a1_5 && (a0_6 == a1_6)) = true
                · rw [if_pos c22] at H
                  have c22b0 : (a0_5 == a1_5 && (a0_6 == a1_6)) = true := c22
                  (try (have c22b1 : decide (a0_5 = a1_5 && (a0_6 == a1_6)) = true := by simpa using c22))
                  (try (have c22b2 : (a0_5 == a1_5 && (a0_6 == a1_6)) = true := by simpa using c22))
                  clear c22
                  by_cases c23 : (a0_7 == a1_7 && (a0_8 == a1_8)) = true
                  · rw [if_pos c23] at H
                    have c23b0 : (a0_7 == a1_7 && (a0_8 == a1_8)) = true := c23
                    (try (have c23b1 : decide (a0_7 = a1_7 && (a0_8 == a1_8)) = true := by simpa using c23))
                    (try (have c23b2 : (a0_7 == a1_7 && (a0_8 == a1_8)) = true := by simpa using c23))
                    clear c23
                    by_cases c24 : a0_9.toList = a1_9.toList
                    · rw [if_pos c24] at H
                      have c24b0 : (a0_9.toList == a1_9.toList) = true := beq_iff_eq.mpr c24
                      have c24b1 : (a0_9.toList != a1_9.toList) = false := bne_eq_false_iff_eq.mpr c24
                      clear c24
                      by_cases c25 : a0_10 = a1_10
                      · rw [if_pos c25] at H
                        have c25b0 : (a0_10 == a1_10) = true := beq_iff_eq.mpr c25
                        have c25b1 : (a0_10 != a1_10) = false := bne_eq_false_iff_eq.mpr c25
                        clear c25
                        obtain rfl := Option.some.inj H
                        have hnb26 := NB101_102.out
                        have hnc26 := NB102_101.out
                        have hcz27_0 : wr.cell? ⟨gb101, 0, none⟩ = some (.int .i64 a0_0) := (blk_cell BK101.out 0).trans rfl
                        have hcz27_1 : wr.cell? ⟨gb101, 1, none⟩ = some (.int .u32 a0_1) := (blk_cell BK101.out 1).trans rfl
                        have hcz27_2 : wr.cell? ⟨gb101, 2, none⟩ = some (.int .u32 a0_2) := (blk_cell BK101.out 2).trans rfl
                        have hcz27_3 : wr.cell? ⟨gb101, 3, none⟩ = some (.int .u64 a0_3) := (blk_cell BK101.out 3).trans rfl
                        have hcz27_4 : wr.cell? ⟨gb101, 4, none⟩ = some (.int .u32 a0_4) := (blk_cell BK101.out 4).trans rfl
                        have hcz27_5 : wr.cell? ⟨gb101, 5, none⟩ = some (.int .u64 a0_5) := (blk_cell BK101.out 5).trans rfl
                        have hcz27_6 : wr.cell? ⟨gb101, 6, none⟩ = some (.int .u32 a0_6) := (blk_cell BK101.out 6).trans rfl
                        have hcz27_7 : wr.cell? ⟨gb101, 7, none⟩ = some (.int .u64 a0_7) := (blk_cell BK101.out 7).trans rfl
                        have hcz27_8 : wr.cell? ⟨gb101, 8, none⟩ = some (.int .u32 a0_8) := (blk_cell BK101.out 8).trans rfl
                        have hcz27_9 : wr.cell? ⟨gb101, 9, none⟩ = some (.string a0_9) := (blk_cell BK101.out 9).trans rfl
                        have hcz27_10 : wr.cell? ⟨gb101, 10, none⟩ = some (.int .u8 a0_10) := (blk_cell BK101.out 10).trans rfl
                        have hcz27_11 : wr.cell? ⟨gb101, 11, none⟩ = some (.bool a0_11) := (blk_cell BK101.out 11).trans rfl
                        have hcz27_12 : wr.cell? ⟨gb101, 12, none⟩ = some (.slice A0_12 l0_12.length c0_12) := (blk_cell BK101.out 12).trans rfl
                        have hfz27_0 := blk_frozen BK101.out 0
                        have hfz27_1 := blk_frozen BK101.out 1
                        have hfz27_2 := blk_frozen BK101.out 2
                        have hfz27_3 := blk_frozen BK101.out 3
                        have hfz27_4 := blk_frozen BK101.out 4
                        have hfz27_5 := blk_frozen BK101.out 5
                        have hfz27_6 := blk_frozen BK101.out 6
                        have hfz27_7 := blk_frozen BK101.out 7
                        have hfz27_8 := blk_frozen BK101.out 8
                        have hfz27_9 := blk_frozen BK101.out 9
                        have hfz27_10 := blk_frozen BK101.out 10
                        have hfz27_11 := blk_frozen BK101.out 11
                        have hfz27_12 := blk_frozen BK101.out 12
                        have hcz28_0 : wr.cell? ⟨gb102, 0, none⟩ = some (.int .i64 a1_0) := (blk_cell BK102.out 0).trans rfl
                        have hcz28_1 : wr.cell? ⟨gb102, 1, none⟩ = some (.int .u32 a1_1) := (blk_cell BK102.out 1).trans rfl
                        have hcz28_2 : wr.cell? ⟨gb102, 2, none⟩ = some (.int .u32 a1_2) := (blk_cell BK102.out 2).trans rfl
                        have hcz28_3 : wr.cell? ⟨gb102, 3, none⟩ = some (.int .u64 a1_3) := (blk_cell BK102.out 3).trans rfl
                        have hcz28_4 : wr.cell? ⟨gb102, 4, none⟩ = some (.int .u32 a1_4) := (blk_cell BK102.out 4).trans rfl
                        have hcz28_5 : wr.cell? ⟨gb102, 5, none⟩ = some (.int .u64 a1_5) := (blk_cell BK102.out 5).trans rfl
                        have hcz28_6 : wr.cell? ⟨gb102, 6, none⟩ = some (.int .u32 a1_6) := (blk_cell BK102.out 6).trans rfl
                        have hcz28_7 : wr.cell? ⟨gb102, 7, none⟩ = some (.int .u64 a1_7) := (blk_cell BK102.out 7).trans rfl
                        have hcz28_8 : wr.cell? ⟨gb102, 8, none⟩ = some (.int .u32 a1_8) := (blk_cell BK102.out 8).trans rfl
                        have hcz28_9 : wr.cell? ⟨gb102, 9, none⟩ = some (.string a1_9) := (blk_cell BK102.out 9).trans rfl
                        have hcz28_10 : wr.cell? ⟨gb102, 10, none⟩ = some (.int .u8 a1_10) := (blk_cell BK102.out 10).trans rfl
                        have hcz28_11 : wr.cell? ⟨gb102, 11, none⟩ = some (.bool a1_11) := (blk_cell BK102.out 11).trans rfl
                        have hcz28_12 : wr.cell? ⟨gb102, 12, none⟩ = some (.slice A1_12 l1_12.length c1_12) := (blk_cell BK102.out 12).trans rfl
                        have hfz28_0 := blk_frozen BK102.out 0
                        have hfz28_1 := blk_frozen BK102.out 1
                        have hfz28_2 := blk_frozen BK102.out 2
                        have hfz28_3 := blk_frozen BK102.out 3
                        have hfz28_4 := blk_frozen BK102.out 4
                        have hfz28_5 := blk_frozen BK102.out 5
                        have hfz28_6 := blk_frozen BK102.out 6
                        have hfz28_7 := blk_frozen BK102.out 7
                        have hfz28_8 := blk_frozen BK102.out 8
                        have hfz28_9 := blk_frozen BK102.out 9
                        have hfz28_10 := blk_frozen BK102.out 10
                        have hfz28_11 := blk_frozen BK102.out 11
                        have hfz28_12 := blk_frozen BK102.out 12
                        go_wp2
                        repeat (go_quiet (fail); try go_wp2)
                        go_ret
                        exact ⟨by first | rfl | (simp [errW_none, errW_some] <;> rfl) | (simp [*, errW_none, errW_some] <;> rfl), by repeat (first | (with_reducible first | exact HB.out | apply below_alloc | apply pw_below_drewN | apply below_drew1 | refine below_set ?_ GE101.out | refine below_set ?_ GE102.out) | exact HB.out)⟩
                      · rw [if_neg c25] at H
                        have c25b0 : (a0_10 == a1_10) = false := beq_eq_false_iff_ne.mpr c25
                        have c25b1 : (a0_10 != a1_10) = true := bne_iff_ne.mpr c25
                        obtain rfl := Option.some.inj H
                        have hnb29 := NB101_102.out
                        have hnc29 := NB102_101.out
                        have hcz30_0 : wr.cell? ⟨gb101, 0, none⟩ = some (.int .i64 a0_0) := (blk_cell BK101.out 0).trans rfl
                        have hcz30_1 : wr.cell? ⟨gb101, 1, none⟩ = some (.int .u32 a0_1) := (blk_cell BK101.out 1).trans rfl
                        have hcz30_2 : wr.cell? ⟨gb101, 2, none⟩ = some (.int .u32 a0_2) := (blk_cell BK101.out 2).trans rfl
                        have hcz30_3 : wr.cell? ⟨gb101, 3, none⟩ = some (.int .u64 a0_3) := (blk_cell BK101.out 3).trans rfl
                        have hcz30_4 : wr.cell? ⟨gb101, 4, none⟩ = some (.int .u32 a0_4) := (blk_cell BK101.out 4).trans rfl
                        have hcz30_5 : wr.cell? ⟨gb101, 5, none⟩ = some (.int .u64 a0_5) := (blk_cell BK101.out 5).trans rfl
                        have hcz30_6 : wr.cell? ⟨gb101, 6, none⟩ = some (.int .u32 a0_6) := (blk_cell BK101.out 6).trans rfl
                        have hcz30_7 : wr.cell? ⟨gb101, 7, none⟩ = some (.int .u64 a0_7) := (blk_cell BK101.out 7).trans rfl
                        have hcz30_8 : wr.cell? ⟨gb101, 8, none⟩ = some (.int .u32 a0_8) := (blk_cell BK101.out 8).trans rfl
                        have hcz30_9 : wr.cell? ⟨gb101, 9, none⟩ = some (.string a0_9) := (blk_cell BK101.out 9).trans rfl
                        have hcz30_10 : wr.cell? ⟨gb101, 10, none⟩ = some (.int .u8 a0_10) := (blk_cell BK101.out 10).trans rfl
                        have hcz30_11 : wr.cell? ⟨gb101, 11, none⟩ = some (.bool a0_11) := (blk_cell BK101.out 11).trans rfl
                        have hcz30_12 : wr.cell? ⟨gb101, 12, none⟩ = some (.slice A0_12 l0_12.length c0_12) := (blk_cell BK101.out 12).trans rfl
                        have hfz30_0 := blk_frozen BK101.out 0
                        have hfz30_1 := blk_frozen BK101.out 1
                        have hfz30_2 := blk_frozen BK101.out 2
                        have hfz30_3 := blk_frozen BK101.out 3
                        have hfz30_4 := blk_frozen BK101.out 4
                        have hfz30_5 := blk_frozen BK101.out 5
                        have hfz30_6 := blk_frozen BK101.out 6
                        have hfz30_7 := blk_frozen BK101.out 7
                        have hfz30_8 := blk_frozen BK101.out 8
                        have hfz30_9 := blk_frozen BK101.out 9
                        have hfz30_10 := blk_frozen BK101.out 10
                        have hfz30_11 := blk_frozen BK101.out 11
                        have hfz30_12 := blk_frozen BK101.out 12
                        have hcz31_0 : wr.cell? ⟨gb102, 0, none⟩ = some (.int .i64 a1_0) := (blk_cell BK102.out 0).trans rfl
                        have hcz31_1 : wr.cell? ⟨gb102, 1, none⟩ = some (.int .u32 a1_1) := (blk_cell BK102.out 1).trans rfl
                        have hcz31_2 : wr.cell? ⟨gb102, 2, none⟩ = some (.int .u32 a1_2) := (blk_cell BK102.out 2).trans rfl
                        have hcz31_3 : wr.cell? ⟨gb102, 3, none⟩ = some (.int .u64 a1_3) := (blk_cell BK102.out 3).trans rfl
                        have hcz31_4 : wr.cell? ⟨gb102, 4, none⟩ = some (.int .u32 a1_4) := (blk_cell BK102.out 4).trans rfl
                        have hcz31_5 : wr.cell? ⟨gb102, 5, none⟩ = some (.int .u64 a1_5) := (blk_cell BK102.out 5).trans rfl
                        have hcz31_6 : wr.cell? ⟨gb102, 6, none⟩ = some (.int .u32 a1_6) := (blk_cell BK102.out 6).trans rfl
                        have hcz31_7 : wr.cell? ⟨gb102, 7, none⟩ = some (.int .u64 a1_7) := (blk_cell BK102.out 7).trans rfl
                        have hcz31_8 : wr.cell? ⟨gb102, 8, none⟩ = some (.int .u32 a1_8) := (blk_cell BK102.out 8).trans rfl
                        have hcz31_9 : wr.cell? ⟨gb102, 9, none⟩ = some (.string a1_9) := (blk_cell BK102.out 9).trans rfl
                        have hcz31_10 : wr.cell? ⟨gb102, 10, none⟩ = some (.int .u8 a1_10) := (blk_cell BK102.out 10).trans rfl
                        have hcz31_11 : wr.cell? ⟨gb102, 11, none⟩ = some (.bool a1_11) := (blk_cell BK102.out 11).trans rfl
                        have hcz31_12 : wr.cell? ⟨gb102, 12, none⟩ = some (.slice A1_12 l1_12.length c1_12) := (blk_cell BK102.out 12).trans rfl
                        have hfz31_0 := blk_frozen BK102.out 0
                        have hfz31_1 := blk_frozen BK102.out 1
                        have hfz31_2 := blk_frozen BK102.out 2
                        have hfz31_3 := blk_frozen BK102.out 3
                        have hfz31_4 := blk_frozen BK102.out 4
                        have hfz31_5 := blk_frozen BK102.out 5
                        have hfz31_6 := blk_frozen BK102.out 6
                        have hfz31_7 := blk_frozen BK102.out 7
                        have hfz31_8 := blk_frozen BK102.out 8
                        have hfz31_9 := blk_frozen BK102.out 9
                        have hfz31_10 := blk_frozen BK102.out 10
                        have hfz31_11 := blk_frozen BK102.out 11
                        have hfz31_12 := blk_frozen BK102.out 12
                        go_wp2
                        repeat (go_quiet (fail); try go_wp2)
                        go_ret
                        exact ⟨by first | rfl | (simp [errW_none, errW_some] <;> rfl) | (simp [*, errW_none, errW_some] <;> rfl), by repeat (first | (with_reducible first | exact HB.out | apply below_alloc | apply pw_below_drewN | apply below_drew1 | refine below_set ?_ GE101.out | refine below_set ?_ GE102.out) | exact HB.out)⟩
                    · rw [if_neg c24] at H
                      have c24b0 : (a0_9.toList == a1_9.toList) = false := beq_eq_false_iff_ne.mpr c24
                      have c24b1 : (a0_9.toList != a1_9.toList) = true := bne_iff_ne.mpr c24
                      obtain rfl := Option.some.inj H
                      have hnb32 := NB101_102.out
                      have hnc32 := NB102_101.out
                      have hcz33_0 : wr.cell? ⟨gb101, 0, none⟩ = some (.int .i64 a0_0) := (blk_cell BK101.out 0).trans rfl
                      have hcz33_1 : wr.cell? ⟨gb101, 1, none⟩ = some (.int .u32 a0_1) := (blk_cell BK101.out 1).trans rfl
                      have hcz33_2 : wr.cell? ⟨gb101, 2, none⟩ = some (.int .u32 a0_2) := (blk_cell BK101.out 2).trans rfl
                      have hcz33_3 : wr.cell? ⟨gb101, 3, none⟩ = some (.int .u64 a0_3) := (blk_cell BK101.out 3).trans rfl
                      have hcz33_4 : wr.cell? ⟨gb101, 4, none⟩ = some (.int .u32 a0_4) := (blk_cell BK101.out 4).trans rfl
                      have hcz33_5 : wr.cell? ⟨gb101, 5, none⟩ = some (.int .u64 a0_5) := (blk_cell BK101.out 5).trans rfl
                      have hcz33_6 : wr.cell? ⟨gb101, 6, none⟩ = some (.int .u32 a0_6) := (blk_cell BK101.out 6).trans rfl
                      have hcz33_7 : wr.cell? ⟨gb101, 7, none⟩ = some (.int .u64 a0_7) := (blk_cell BK101.out 7).trans rfl
                      have hcz33_8 : wr.cell? ⟨gb101, 8, none⟩ = some (.int .u32 a0_8) := (blk_cell BK101.out 8).trans rfl
                      have hcz33_9 : wr.cell? ⟨gb101, 9, none⟩ = some (.string a0_9) := (blk_cell BK101.out 9).trans rfl
                      have hcz33_10 : wr.cell? ⟨gb101, 10, none⟩ = some (.int .u8 a0_10) := (blk_cell BK101.out 10).trans rfl
                      have hcz33_11 : wr.cell? ⟨gb101, 11, none⟩ = some (.bool a0_11) := (blk_cell BK101.out 11).trans rfl
                      have hcz33_12 : wr.cell? ⟨gb101, 12, none⟩ = some (.slice A0_12 l0_12.length c0_12) := (blk_cell BK101.out 12).trans rfl
                      have hfz33_0 := blk_frozen BK101.out 0
                      have hfz33_1 := blk_frozen BK101.out 1
                      have hfz33_2 := blk_frozen BK101.out 2
                      have hfz33_3 := blk_frozen BK101.out 3
                      have hfz33_4 := blk_frozen BK101.out 4
                      have hfz33_5 := blk_frozen BK101.out 5
                      have hfz33_6 := blk_frozen BK101.out 6
                      have hfz33_7 := blk_frozen BK101.out 7
                      have hfz33_8 := blk_frozen BK101.out 8
                      have hfz33_9 := blk_frozen BK101.out 9
                      have hfz33_10 := blk_frozen BK101.out 10
                      have hfz33_11 := blk_frozen BK101.out 11
                      have hfz33_12 := blk_frozen BK101.out 12
                      have hcz34_0 : wr.cell? ⟨gb102, 0, none⟩ = some (.int .i64 a1_0) := (blk_cell BK102.out 0).trans rfl
                      have hcz34_1 : wr.cell? ⟨gb102, 1, none⟩ = some (.int .u32 a1_1) := (blk_cell BK102.out 1).trans rfl
                      have hcz34_2 : wr.cell? ⟨gb102, 2, none⟩ = some (.int .u32 a1_2) := (blk_cell BK102.out 2).trans rfl
                      have hcz34_3 : wr.cell? ⟨gb102, 3, none⟩ = some (.int .u64 a1_3) := (blk_cell BK102.out 3).trans rfl
                      have hcz34_4 : wr.cell? ⟨gb102, 4, none⟩ = some (.int .u32 a1_4) := (blk_cell BK102.out 4).trans rfl
                      have hcz34_5 : wr.cell? ⟨gb102, 5, none⟩ = some (.int .u64 a1_5) := (blk_cell BK102.out 5).trans rfl
                      have hcz34_6 : wr.cell? ⟨gb102, 6, none⟩ = some (.int .u32 a1_6) := (blk_cell BK102.out 6).trans rfl
                      have hcz34_7 : wr.cell? ⟨gb102, 7, none⟩ = some (.int .u64 a1_7) := (blk_cell BK102.out 7).trans rfl
                      have hcz34_8 : wr.cell? ⟨gb102, 8, none⟩ = some (.int .u32 a1_8) := (blk_cell BK102.out 8).trans rfl
                      have hcz34_9 : wr.cell? ⟨gb102, 9, none⟩ = some (.string a1_9) := (blk_cell BK102.out 9).trans rfl
                      have hcz34_10 : wr.cell? ⟨gb102, 10, none⟩ = some (.int .u8 a1_10) := (blk_cell BK102.out 10).trans rfl
                      have hcz34_11 : wr.cell? ⟨gb102, 11, none⟩ = some (.bool a1_11) := (blk_cell BK102.out 11).trans rfl
                      have hcz34_12 : wr.cell? ⟨gb102, 12, none⟩ = some (.slice A1_12 l1_12.length c1_12) := (blk_cell BK102.out 12).trans rfl
                      have hfz34_0 := blk_frozen BK102.out 0
                      have hfz34_1 := blk_frozen BK102.out 1
                      have hfz34_2 := blk_frozen BK102.out 2
                      have hfz34_3 := blk_frozen BK102.out 3
                      have hfz34_4 := blk_frozen BK102.out 4
                      have hfz34_5 := blk_frozen BK102.out 5
                      have hfz34_6 := blk_frozen BK102.out 6
                      have hfz34_7 := blk_frozen BK102.out 7
                      have hfz34_8 := blk_frozen BK102.out 8
                      have hfz34_9 := blk_frozen BK102.out 9
                      have hfz34_10 := blk_frozen BK102.out 10
                      have hfz34_11 := blk_frozen BK102.out 11
                      have hfz34_12 := blk_frozen BK102.out 12
                      go_wp2
                      repeat (go_quiet (fail); try go_wp2)
                      go_ret
                      exact ⟨by first | rfl | (simp [errW_none, errW_some] <;> rfl) | (simp [*, errW_none, errW_some] <;> rfl), by repeat (first | (with_reducible first | exact HB.out | apply below_alloc | apply pw_below_drewN | apply below_drew1 | refine below_set ?_ GE101.out | refine below_set ?_ GE102.out) | exact HB.out)⟩
                  · rw [if_neg c23] at H
                    have c23b0 : (a0_7 == a1_7 && (a0_8 == a1_8)) = false := by simpa using c23
                    (try (have c23b1 : decide (a0_7 = a1_7 && (a0_8 == a1_8)) = false := by simpa using c23))
                    (try (have c23b2 : (a0_7 == a1_7 && (a0_8 == a1_8)) = false := by simpa using c23))
                    (try (have c23b3 : ¬ (a0_7 = a1_7 && (a0_8 == a1_8)) := by simpa using c23))
                    clear c23
                    obtain rfl := Option.some.inj H
                    have hnb35 := NB101_102.out
                    have hnc35 := NB102_101.out
                    have hcz36_0 : wr.cell? ⟨gb101, 0, none⟩ = some (.int .i64 a0_0) := (blk_cell BK101.out 0).trans rfl
                    have hcz36_1 : wr.cell? ⟨gb101, 1, none⟩ = some (.int .u32 a0_1) := (blk_cell BK101.out 1).trans rfl
                    have hcz36_2 : wr.cell? ⟨gb101, 2, none⟩ = some (.int .u32 a0_2) := (blk_cell BK101.out 2).trans rfl
                    have hcz36_3 : wr.cell? ⟨gb101, 3, none⟩ = some (.int .u64 a0_3) := (blk_cell BK101.out 3).trans rfl
                    have hcz36_4 : wr.cell? ⟨gb101, 4, none⟩ = some (.int .u32 a0_4) := (blk_cell BK101.out 4).trans rfl
                    have hcz36_5 : wr.cell? ⟨gb101, 5, none⟩ = some (.int .u64 a0_5) := (blk_cell BK101.out 5).trans rfl
                    have hcz36_6 : wr.cell? ⟨gb101, 6, none⟩ = some (.int .u32 a0_6) := (blk_cell BK101.out 6).trans rfl
                    have hcz36_7 : wr.cell? ⟨gb101, 7, none⟩ = some (.int .u64 a0_7) := (blk_cell BK101.out 7).trans rfl
                    have hcz36_8 : wr.cell? ⟨gb101, 8, none⟩ = some (.int .u32 a0_8) := (blk_cell BK101.out 8).trans rfl
                    have hcz36_9 : wr.cell? ⟨gb101, 9, none⟩ = some (.string a0_9) := (blk_cell BK101.out 9).trans rfl
                    have hcz36_10 : wr.cell? ⟨gb101, 10, none⟩ = some (.int .u8 a0_10) := (blk_cell BK101.out 10).trans rfl
                    have hcz36_11 : wr.cell? ⟨gb101, 11, none⟩ = some (.bool a0_11) := (blk_cell BK101.out 11).trans rfl
                    have hcz36_12 : wr.cell? ⟨gb101, 12, none⟩ = some (.slice A0_12 l0_12.length c0_12) := (blk_cell BK101.out 12).trans rfl
                    have hfz36_0 := blk_frozen BK101.out 0
                    have hfz36_1 := blk_frozen BK101.out 1
                    have hfz36_2 := blk_frozen BK101.out 2
                    have hfz36_3 := blk_frozen BK101.out 3
                    have hfz36_4 := blk_frozen BK101.out 4
                    have hfz36_5 := blk_frozen BK101.out 5
                    have hfz36_6 := blk_frozen BK101.out 6
                    have hfz36_7 := blk_frozen BK101.out 7
                    have hfz36_8 := blk_frozen BK101.out 8
                    have hfz36_9 := blk_frozen BK101.out 9
                    have hfz36_10 := blk_frozen BK101.out 10
                    have hfz36_11 := blk_frozen BK101.out 11
                    have hfz36_12 := blk_frozen BK101.out 12
                    have hcz37_0 : wr.cell? ⟨gb102, 0, none⟩ = some (.int .i64 a1_0) := (blk_cell BK102.out 0).trans rfl
                    have hcz37_1 : wr.cell? ⟨gb102, 1, none⟩ = some (.int .u32 a1_1) := (blk_cell BK102.out 1).trans rfl
                    have hcz37_2 : wr.cell? ⟨gb102, 2, none⟩ = some (.int .u32 a1_2) := (blk_cell BK102.out 2).trans rfl
                    have hcz37_3 : wr.cell? ⟨gb102, 3, none⟩ = some (.int .u64 a1_3) := (blk_cell BK102.out 3).trans rfl
                    have hcz37_4 : wr.cell? ⟨gb102, 4, none⟩ = some (.int .u32 a1_4) := (blk_cell BK102.out 4).trans rfl
                    have hcz37_5 : wr.cell? ⟨gb102, 5, none⟩ = some (.int .u64 a1_5) := (blk_cell BK102.out 5).trans rfl
                    have hcz37_6 : wr.cell? ⟨gb102, 6, none⟩ = some (.int .u32 a1_6) := (blk_cell BK102.out 6).trans rfl
                    have hcz37_7 : wr.cell? ⟨gb102, 7, none⟩ = some (.int .u64 a1_7) := (blk_cell BK102.out 7).trans rfl
                    have hcz37_8 : wr.cell? ⟨gb102, 8, none⟩ = some (.int .u32 a1_8) := (blk_cell BK102.out 8).trans rfl
                    have hcz37_9 : wr.cell? ⟨gb102, 9, none⟩ = some (.string a1_9) := (blk_cell BK102.out 9).trans rfl
                    have hcz37_10 : wr.cell? ⟨gb102, 10, none⟩ = some (.int .u8 a1_10) := (blk_cell BK102.out 10).trans rfl
                    have hcz37_11 : wr.cell? ⟨gb102, 11, none⟩ = some (.bool a1_11) := (blk_cell BK102.out 11).trans rfl
                    have hcz37_12 : wr.cell? ⟨gb102, 12, none⟩ = some (.slice A1_12 l1_12.length c1_12) := (blk_cell BK102.out 12).trans rfl
                    have hfz37_0 := blk_frozen BK102.out 0
                    have hfz37_1 := blk_frozen BK102.out 1
                    have hfz37_2 := blk_frozen BK102.out 2
                    have hfz37_3 := blk_frozen BK102.out 3
                    have hfz37_4 := blk_frozen BK102.out 4
                    have hfz37_5 := blk_frozen BK102.out 5
                    have hfz37_6 := blk_frozen BK102.out 6
                    have hfz37_7 := blk_frozen BK102.out 7
                    have hfz37_8 := blk_frozen BK102.out 8
                    have hfz37_9 := blk_frozen BK102.out 9
                    have hfz37_10 := blk_frozen BK102.out 10
                    have hfz37_11 := blk_frozen BK102.out 11
                    have hfz37_12 := blk_frozen BK102.out 12
                    go_wp2
                    repeat (go_quiet (fail); try go_wp2)
                    go_ret
                    exact ⟨by first | rfl | (simp [errW_none, errW_some] <;> rfl) | (simp [*, errW_none, errW_some] <;> rfl), by repeat (first | (with_reducible first | exact HB.out | apply below_alloc | apply pw_below_drewN | apply below_drew1 | refine below_set ?_ GE101.out | refine below_set ?_ GE102.out) | exact HB.out)⟩
                · rw [if_neg c22] at H
                  have c22b0 : (a0_5 == a1_5 && (a0_6 == a1_6)) = false := by simpa using c22
                  (try (have c22b1 : decide (a0_5 = a1_5 && (a0_6 == a1_6)) = false := by simpa using c22))
                  (try (have c22b2 : (a0_5 == a1_5 && (a0_6 == a1_6)) = false := by simpa using c22))
                  (try (have c22b3 : ¬ (a0_5 = a1_5 && (a0_6 == a1_6)) := by simpa using c22))
                  clear c22
                  obtain rfl := Option.some.inj H
                  have hnb38 := NB101_102.out
                  have hnc38 := NB102_101.out
                  have hcz39_0 : wr.cell? ⟨gb101, 0, none⟩ = some (.int .i64 a0_0) := (blk_cell BK101.out 0).trans rfl
                  have hcz39_1 : wr.cell? ⟨gb101, 1, none⟩ = some (.int .u32 a0_1) := (blk_cell BK101.out 1).trans rfl
                  have hcz39_2 : wr.cell? ⟨gb101, 2, none⟩ = some (.int .u32 a0_2) := (blk_cell BK101.out 2).trans rfl
                  have hcz39_3 : wr.cell? ⟨gb101, 3, none⟩ = some (.int .u64 a0_3) := (blk_cell BK101.out 3).trans rfl
                  have hcz39_4 : wr.cell? ⟨gb101, 4, none⟩ = some (.int .u32 a0_4) := (blk_cell BK101.out 4).trans rfl
                  have hcz39_5 : wr.cell? ⟨gb101, 5, none⟩ = some (.int .u64 a0_5) := (blk_cell BK101.out 5).trans rfl
                  have hcz39_6 : wr.cell? ⟨gb101, 6, none⟩ = some (.int .u32 a0_6) := (blk_cell BK101.out 6).trans rfl
                  have hcz39_7 : wr.cell? ⟨gb101, 7, none⟩ = some (.int .u64 a0_7) := (blk_cell BK101.out 7).trans rfl
                  have hcz39_8 : wr.cell? ⟨gb101, 8, none⟩ = some (.int .u32 a0_8) := (blk_cell BK101.out 8).trans rfl
                  have hcz39_9 : wr.cell? ⟨gb101, 9, none⟩ = some (.string a0_9) := (blk_cell BK101.out 9).trans rfl
                  have hcz39_10 : wr.cell? ⟨gb101, 10, none⟩ = some (.int .u8 a0_10) := (blk_cell BK101.out 10).trans rfl
                  have hcz39_11 : wr.cell? ⟨gb101, 11, none⟩ = some (.bool a0_11) := (blk_cell BK101.out 11).trans rfl
                  have hcz39_12 : wr.cell? ⟨gb101, 12, none⟩ = some (.slice A0_12 l0_12.length c0_12) := (blk_cell BK101.out 12).trans rfl
                  have hfz39_0 := blk_frozen BK101.out 0
                  have hfz39_1 := blk_frozen BK101.out 1
                  have hfz39_2 := blk_frozen BK101.out 2
                  have hfz39_3 := blk_frozen BK101.out 3
                  have hfz39_4 := blk_frozen BK101.out 4
                  have hfz39_5 := blk_frozen BK101.out 5
                  have hfz39_6 := blk_frozen BK101.out 6
                  have hfz39_7 := blk_frozen BK101.out 7
                  have hfz39_8 := blk_frozen BK101.out 8
                  have hfz39_9 := blk_frozen BK101.out 9
                  have hfz39_10 := blk_frozen BK101.out 10
                  have hfz39_11 := blk_frozen BK101.out 11
                  have hfz39_12 := blk_frozen BK101.out 12
                  have hcz40_0 : wr.cell? ⟨gb102, 0, none⟩ = some (.int .i64 a1_0) := (blk_cell BK102.out 0).trans rfl
                  have hcz40_1 : wr.cell? ⟨gb102, 1, none⟩ = some (.int .u32 a1_1) := (blk_cell BK102.out 1).trans rfl
                  have hcz40_2 : wr.cell? ⟨gb102, 2, none⟩ = some (.int .u32 a1_2) := (blk_cell BK102.out 2).trans rfl
                  have hcz40_3 : wr.cell? ⟨gb102, 3, none⟩ = some (.int .u64 a1_3) := (blk_cell BK102.out 3).trans rfl
                  have hcz40_4 : wr.cell? ⟨gb102, 4, none⟩ = some (.int .u32 a1_4) := (blk_cell BK102.out 4).trans rfl
                  have hcz40_5 : wr.cell? ⟨gb102, 5, none⟩ = some (.int .u64 a1_5) := (blk_cell BK102.out 5).trans rfl
                  have hcz40_6 : wr.cell? ⟨gb102, 6, none⟩ = some (.int .u32 a1_6) := (blk_cell BK102.out 6).trans rfl
                  have hcz40_7 : wr.cell? ⟨gb102, 7, none⟩ = some (.int .u64 a1_7) := (blk_cell BK102.out 7).trans rfl
                  have hcz40_8 : wr.cell? ⟨gb102, 8, none⟩ = some (.int .u32 a1_8) := (blk_cell BK102.out 8).trans rfl
                  have hcz40_9 : wr.cell? ⟨gb102, 9, none⟩ = some (.string a1_9) := (blk_cell BK102.out 9).trans rfl
                  have hcz40_10 : wr.cell? ⟨gb102, 10, none⟩ = some (.int .u8 a1_10) := (blk_cell BK102.out 10).trans rfl
                  have hcz40_11 : wr.cell? ⟨gb102, 11, none⟩ = some (.bool a1_11) := (blk_cell BK102.out 11).trans rfl
                  have hcz40_12 : wr.cell? ⟨gb102, 12, none⟩ = some (.slice A1_12 l1_12.length c1_12) := (blk_cell BK102.out 12).trans rfl
                  have hfz40_0 := blk_frozen BK102.out 0
                  have hfz40_1 := blk_frozen BK102.out 1
                  have hfz40_2 := blk_frozen BK102.out 2
                  have hfz40_3 := blk_frozen BK102.out 3
                  have hfz40_4 := blk_frozen BK102.out 4
                  have hfz40_5 := blk_frozen BK102.out 5
                  have hfz40_6 := blk_frozen BK102.out 6
                  have hfz40_7 := blk_frozen BK102.out 7
                  have hfz40_8 := blk_frozen BK102.out 8
                  have hfz40_9 := blk_frozen BK102.out 9
                  have hfz40_10 := blk_frozen BK102.out 10
                  have hfz40_11 := blk_frozen BK102.out 11
                  have hfz40_12 := blk_frozen BK102.out 12
                  go_wp2
                  repeat (go_quiet (fail); try go_wp2)
                  go_ret
                  exact ⟨by first | rfl | (simp [errW_none, errW_some] <;> rfl) | (simp [*, errW_none, errW_some] <;> rfl), by repeat (first | (with_reducible first | exact HB.out | apply below_alloc | apply pw_below_drewN | apply below_drew1 | refine below_set ?_ GE101.out | refine below_set ?_ GE102.out) | exact HB.out)⟩
              · rw [if_neg c21] at H
                have c21b0 : (a0_3 == a1_3 && (a0_4 == a1_4)) = false := by simpa using c21
                (try (have c21b1 : decide (a0_3 = a1_3 && (a0_4 == a1_4)) = false := by simpa using c21))
                (try (have c21b2 : (a0_3 == a1_3 && (a0_4 == a1_4)) = false := by simpa using c21))
                (try (have c21b3 : ¬ (a0_3 = a1_3 && (a0_4 == a1_4)) := by simpa using c21))
                clear c21
                obtain rfl := Option.some.inj H
                have hnb41 := NB101_102.out
                have hnc41 := NB102_101.out
                have hcz42_0 : wr.cell? ⟨gb101, 0, none⟩ = some (.int .i64 a0_0) := (blk_cell BK101.out 0).trans rfl
                have hcz42_1 : wr.cell? ⟨gb101, 1, none⟩ = some (.int .u32 a0_1) := (blk_cell BK101.out 1).trans rfl
                have hcz42_2 : wr.cell? ⟨gb101, 2, none⟩ = some (.int .u32 a0_2) := (blk_cell BK101.out 2).trans rfl
                have hcz42_3 : wr.cell? ⟨gb101, 3, none⟩ = some (.int .u64 a0_3) := (blk_cell BK101.out 3).trans rfl
                have hcz42_4 : wr.cell? ⟨gb101, 4, none⟩ = some (.int .u32 a0_4) := (blk_cell BK101.out 4).trans rfl
                have hcz42_5 : wr.cell? ⟨gb101, 5, none⟩ = some (.int .u64 a0_5) := (blk_cell BK101.out 5).trans rfl
                have hcz42_6 : wr.cell? ⟨gb101, 6, none⟩ = some (.int .u32 a0_6) := (blk_cell BK101.out 6).trans rfl
                have hcz42_7 : wr.cell? ⟨gb101, 7, none⟩ = some (.int .u64 a0_7) := (blk_cell BK101.out 7).trans rfl
                have hcz42_8 : wr.cell? ⟨gb101, 8, none⟩ = some (.int .u32 a0_8) := (blk_cell BK101.out 8).trans rfl
                have hcz42_9 : wr.cell? ⟨gb101, 9, none⟩ = some (.string a0_9) := (blk_cell BK101.out 9).trans rfl
                have hcz42_10 : wr.cell? ⟨gb101, 10, none⟩ = some (.int .u8 a0_10) := (blk_cell BK101.out 10).trans rfl
                have hcz42_11 : wr.cell? ⟨gb101, 11, none⟩ = some (.bool a0_11) := (blk_cell BK101.out 11).trans rfl
                have hcz42_12 : wr.cell? ⟨gb101, 12, none⟩ = some (.slice A0_12 l0_12.length c0_12) := (blk_cell BK101.out 12).trans rfl
                have hfz42_0 := blk_frozen BK101.out 0
                have hfz42_1 := blk_frozen BK101.out 1
                have hfz42_2 := blk_frozen BK101.out 2
                have hfz42_3 := blk_frozen BK101.out 3
                have hfz42_4 := blk_frozen BK101.out 4
                have hfz42_5 := blk_frozen BK101.out 5
                have hfz42_6 := blk_frozen BK101.out 6
                have hfz42_7 := blk_frozen BK101.out 7
                have hfz42_8 := blk_frozen BK101.out 8
                have hfz42_9 := blk_frozen BK101.out 9
                have hfz42_10 := blk_frozen BK101.out 10
                have hfz42_11 := blk_frozen BK101.out 11
                have hfz42_12 := blk_frozen BK101.out 12
                have hcz43_0 : wr.cell? ⟨gb102, 0, none⟩ = some (.int .i64 a1_0) := (blk_cell BK102.out 0).trans rfl
                have hcz43_1 : wr.cell? ⟨gb102, 1, none⟩ = some (.int .u32 a1_1) := (blk_cell BK102.out 1).trans rfl
                have hcz43_2 : wr.cell? ⟨gb102, 2, none⟩ = some (.int .u32 a1_2) := (blk_cell BK102.out 2).trans rfl
                have hcz43_3 : wr.cell? ⟨gb102, 3, none⟩ = some (.int .u64 a1_3) := (blk_cell BK102.out 3).trans rfl
                have hcz43_4 : wr.cell? ⟨gb102, 4, none⟩ = some (.int .u32 a1_4) := (blk_cell BK102.out 4).trans rfl
                have hcz43_5 : wr.cell? ⟨gb102, 5, none⟩ = some (.int .u64 a1_5) := (blk_cell BK102.out 5).trans rfl
                have hcz43_6 : wr.cell? ⟨gb102, 6, none⟩ = some (.int .u32 a1_6) := (blk_cell BK102.out 6).trans rfl
                have hcz43_7 : wr.cell? ⟨gb102, 7, none⟩ = some (.int .u64 a1_7) := (blk_cell BK102.out 7).trans rfl
                have hcz43_8 : wr.cell? ⟨gb102, 8, none⟩ = some (.int .u32 a1_8) := (blk_cell BK102.out 8).trans rfl
                have hcz43_9 : wr.cell? ⟨gb102, 9, none⟩ = some (.string a1_9) := (blk_cell BK102.out 9).trans rfl
                have hcz43_10 : wr.cell? ⟨gb102, 10, none⟩ = some (.int .u8 a1_10) := (blk_cell BK102.out 10).trans rfl
                have hcz43_11 : wr.cell? ⟨gb102, 11, none⟩ = some (.bool a1_11) := (blk_cell BK102.out 11).trans rfl
                have hcz43_12 : wr.cell? ⟨gb102, 12, none⟩ = some (.slice A1_12 l1_12.length c1_12) := (blk_cell BK102.out 12).trans rfl
                have hfz43_0 := blk_frozen BK102.out 0
                have hfz43_1 := blk_frozen BK102.out 1
                have hfz43_2 := blk_frozen BK102.out 2
                have hfz43_3 := blk_frozen BK102.out 3
                have hfz43_4 := blk_frozen BK102.out 4
                have hfz43_5 := blk_frozen BK102.out 5
                have hfz43_6 := blk_frozen BK102.out 6
                have hfz43_7 := blk_frozen BK102.out 7
                have hfz43_8 := blk_frozen BK102.out 8
                have hfz43_9 := blk_frozen BK102.out 9
                have hfz43_10 := blk_frozen BK102.out 10
                have hfz43_11 := blk_frozen BK102.out 11
                have hfz43_12 := blk_frozen BK102.out 12
                go_wp2
                repeat (go_quiet (fail); try go_wp2)
                go_ret
                exact ⟨by first | rfl | (simp [errW_none, errW_some] <;> rfl) | (simp [*, errW_none, errW_some] <;> rfl), by repeat (first | (with_reducible first | exact HB.out | apply below_alloc | apply pw_below_drewN | apply below_drew1 | refine below_set ?_ GE101.out | refine below_set ?_ GE102.out) | exact HB.out)⟩
            · rw [if_neg c20] at H
              have c20b0 : (a0_1 == a1_1 && (a0_2 == a1_2)) = false := by simpa using c20
              (try (have c20b1 : decide (a0_1 = a1_1 && (a0_2 == a1_2)) = false := by simpa using c20))
              (try (have c20b2 : (a0_1 == a1_1 && (a0_2 == a1_2)) = false := by simpa using c20))
              (try (have c20b3 : ¬ (a0_1 = a1_1 && (a0_2 == a1_2)) := by simpa using c20))
              clear c20
              obtain rfl := Option.some.inj H
              have hnb44 := NB101_102.out
              have hnc44 := NB102_101.out
              have hcz45_0 : wr.cell? ⟨gb101, 0, none⟩ = some (.int .i64 a0_0) := (blk_cell BK101.out 0).trans rfl
              have hcz45_1 : wr.cell? ⟨gb101, 1, none⟩ = some (.int .u32 a0_1) := (blk_cell BK101.out 1).trans rfl
              have hcz45_2 : wr.cell? ⟨gb101, 2, none⟩ = some (.int .u32 a0_2) := (blk_cell BK101.out 2).trans rfl
              have hcz45_3 : wr.cell? ⟨gb101, 3, none⟩ = some (.int .u64 a0_3) := (blk_cell BK101.out 3).trans rfl
              have hcz45_4 : wr.cell? ⟨gb101, 4, none⟩ = some (.int .u32 a0_4) := (blk_cell BK101.out 4).trans rfl
              have hcz45_5 : wr.cell? ⟨gb101, 5, none⟩ = some (.int .u64 a0_5) := (blk_cell BK101.out 5).trans rfl
              have hcz45_6 : wr.cell? ⟨gb101, 6, none⟩ = some (.int .u32 a0_6) := (blk_cell BK101.out 6).trans rfl
              have hcz45_7 : wr.cell? ⟨gb101, 7, none⟩ = some (.int .u64 a0_7) := (blk_cell BK101.out 7).trans rfl
              have hcz45_8 : wr.cell? ⟨gb101, 8, none⟩ = some (.int .u32 a0_8) := (blk_cell BK101.out 8).trans rfl
              have hcz45_9 : wr.cell? ⟨gb101, 9, none⟩ = some (.string a0_9) := (blk_cell BK101.out 9).trans rfl
              have hcz45_10 : wr.cell? ⟨gb101, 10, none⟩ = some (.int .u8 a0_10) := (blk_cell BK101.out 10).trans rfl
              have hcz45_11 : wr.cell? ⟨gb101, 11, none⟩ = some (.bool a0_11) := (blk_cell BK101.out 11).trans rfl
              have hcz45_12 : wr.cell? ⟨gb101, 12, none⟩ = some (.slice A0_12 l0_12.length c0_12) := (blk_cell BK101.out 12).trans rfl
              have hfz45_0 := blk_frozen BK101.out 0
              have hfz45_1 := blk_frozen BK101.out 1
              have hfz45_2 := blk_frozen BK101.out 2
              have hfz45_3 := blk_frozen BK101.out 3
              have hfz45_4 := blk_frozen BK101.out 4
              have hfz45_5 := blk_frozen BK101.out 5
              have hfz45_6 := blk_frozen BK101.out 6
              have hfz45_7 := blk_frozen BK101.out 7
              have hfz45_8 := blk_frozen BK101.out 8
              have hfz45_9 := blk_frozen BK101.out 9
              have hfz45_10 := blk_frozen BK101.out 10
              have hfz45_11 := blk_frozen BK101.out 11
              have hfz45_12 := blk_frozen BK101.out 12
              have hcz46_0 : wr.cell? ⟨gb102, 0, none⟩ = some (.int .i64 a1_0) := (blk_cell BK102.out 0).trans rfl
              have hcz46_1 : wr.cell? ⟨gb102, 1, none⟩ = some (.int .u32 a1_1) := (blk_cell BK102.out 1).trans rfl
              have hcz46_2 : wr.cell? ⟨gb102, 2, none⟩ = some (.int .u32 a1_2) := (blk_cell BK102.out 2).trans rfl
              have hcz46_3 : wr.cell? ⟨gb102, 3, none⟩ = some (.int .u64 a1_3) := (blk_cell BK102.out 3).trans rfl
              have hcz46_4 : wr.cell? ⟨gb102, 4, none⟩ = some (.int .u32 a1_4) := (blk_cell BK102.out 4).trans rfl
              have hcz46_5 : wr.cell? ⟨gb102, 5, none⟩ = some (.int .u64 a1_5) := (blk_cell BK102.out 5).trans rfl
              have hcz46_6 : wr.cell? ⟨gb102, 6, none⟩ = some (.int .u32 a1_6) := (blk_cell BK102.out 6).trans rfl
              have hcz46_7 : wr.cell? ⟨gb102, 7, none⟩ = some (.int .u64 a1_7) := (blk_cell BK102.out 7).trans rfl
              have hcz46_8 : wr.cell? ⟨gb102, 8, none⟩ = some (.int .u32 a1_8) := (blk_cell BK102.out 8).trans rfl
              have hcz46_9 : wr.cell? ⟨gb102, 9, none⟩ = some (.string a1_9) := (blk_cell BK102.out 9).trans rfl
              have hcz46_10 : wr.cell? ⟨gb102, 10, none⟩ = some (.int .u8 a1_10) := (blk_cell BK102.out 10).trans rfl
              have hcz46_11 : wr.cell? ⟨gb102, 11, none⟩ = some (.bool a1_11) := (blk_cell BK102.out 11).trans rfl
              have hcz46_12 : wr.cell? ⟨gb102, 12, none⟩ = some (.slice A1_12 l1_12.length c1_12) := (blk_cell BK102.out 12).trans rfl
              have hfz46_0 := blk_frozen BK102.out 0
              have hfz46_1 := blk_frozen BK102.out 1
              have hfz46_2 := blk_frozen BK102.out 2
              have hfz46_3 := blk_frozen BK102.out 3
              have hfz46_4 := blk_frozen BK102.out 4
              have hfz46_5 := blk_frozen BK102.out 5
              have hfz46_6 := blk_frozen BK102.out 6
              have hfz46_7 := blk_frozen BK102.out 7
              have hfz46_8 := blk_frozen BK102.out 8
              have hfz46_9 := blk_frozen BK102.out 9
              have hfz46_10 := blk_frozen BK102.out 10
              have hfz46_11 := blk_frozen BK102.out 11
              have hfz46_12 := blk_frozen BK102.out 12
              go_wp2
              repeat (go_quiet (fail); try go_wp2)
              go_ret
              exact ⟨by first | rfl | (simp [errW_none, errW_some] <;> rfl) | (simp [*, errW_none, errW_some] <;> rfl), by repeat (first | (with_reducible first | exact HB.out | apply below_alloc | apply pw_below_drewN | apply below_drew1 | refine below_set ?_ GE101.out | refine below_set ?_ GE102.out) | exact HB.out)⟩
          · rw [if_neg c19] at H
            have c19b0 : (a0_0 == a1_0) = false := beq_eq_false_iff_ne.mpr c19
            have c19b1 : (a0_0 != a1_0) = true := bne_iff_ne.mpr c19
            obtain rfl := Option.some.inj H
            have hnb47 := NB101_102.out
            have hnc47 := NB102_101.out
            have hcz48_0 : wr.cell? ⟨gb101, 0, none⟩ = some (.int .i64 a0_0) := (blk_cell BK101.out 0).trans rfl
            have hcz48_1 : wr.cell? ⟨gb101, 1, none⟩ = some (.int .u32 a0_1) := (blk_cell BK101.out 1).trans rfl
            have hcz48_2 : wr.cell? ⟨gb101, 2, none⟩ = some (.int .u32 a0_2) := (blk_cell BK101.out 2).trans rfl
            have hcz48_3 : wr.cell? ⟨gb101, 3, none⟩ = some (.int .u64 a0_3) := (blk_cell BK101.out 3).trans rfl
            have hcz48_4 : wr.cell? ⟨gb101, 4, none⟩ = some (.int .u32 a0_4) := (blk_cell BK101.out 4).trans rfl
            have hcz48_5 : wr.cell? ⟨gb101, 5, none⟩ = some (.int .u64 a0_5) := (blk_cell BK101.out 5).trans rfl
            have hcz48_6 : wr.cell? ⟨gb101, 6, none⟩ = some (.int .u32 a0_6) := (blk_cell BK101.out 6).trans rfl
            have hcz48_7 : wr.cell? ⟨gb101, 7, none⟩ = some (.int .u64 a0_7) := (blk_cell BK101.out 7).trans rfl
            have hcz48_8 : wr.cell? ⟨gb101, 8, none⟩ = some (.int .u32 a0_8) := (blk_cell BK101.out 8).trans rfl
            have hcz48_9 : wr.cell? ⟨gb101, 9, none⟩ = some (.string a0_9) := (blk_cell BK101.out 9).trans rfl
            have hcz48_10 : wr.cell? ⟨gb101, 10, none⟩ = some (.int .u8 a0_10) := (blk_cell BK101.out 10).trans rfl
            have hcz48_11 : wr.cell? ⟨gb101, 11, none⟩ = some (.bool a0_11) := (blk_cell BK101.out 11).trans rfl
            have hcz48_12 : wr.cell? ⟨gb101, 12, none⟩ = some (.slice A0_12 l0_12.length c0_12) := (blk_cell BK101.out 12).trans rfl
            have hfz48_0 := blk_frozen BK101.out 0
            have hfz48_1 := blk_frozen BK101.out 1
            have hfz48_2 := blk_frozen BK101.out 2
            have hfz48_3 := blk_frozen BK101.out 3
            have hfz48_4 := blk_frozen BK101.out 4
            have hfz48_5 := blk_frozen BK101.out 5
            have hfz48_6 := blk_frozen BK101.out 6
            have hfz48_7 := blk_frozen BK101.out 7
            have hfz48_8 := blk_frozen BK101.out 8
            have hfz48_9 := blk_frozen BK101.out 9
            have hfz48_10 := blk_frozen BK101.out 10
            have hfz48_11 := blk_frozen BK101.out 11
            have hfz48_12 := blk_frozen BK101.out 12
            have hcz49_0 : wr.cell? ⟨gb102, 0, none⟩ = some (.int .i64 a1_0) := (blk_cell BK102.out 0).trans rfl
            have hcz49_1 : wr.cell? ⟨gb102, 1, none⟩ = some (.int .u32 a1_1) := (blk_cell BK102.out 1).trans rfl
            have hcz49_2 : wr.cell? ⟨gb102, 2, none⟩ = some (.int .u32 a1_2) := (blk_cell BK102.out 2).trans rfl
            have hcz49_3 : wr.cell? ⟨gb102, 3, none⟩ = some (.int .u64 a1_3) := (blk_cell BK102.out 3).trans rfl
            have hcz49_4 : wr.cell? ⟨gb102, 4, none⟩ = some (.int .u32 a1_4) := (blk_cell BK102.out 4).trans rfl
            have hcz49_5 : wr.cell? ⟨gb102, 5, none⟩ = some (.int .u64 a1_5) := (blk_cell BK102.out 5).trans rfl
            have hcz49_6 : wr.cell? ⟨gb102, 6, none⟩ = some (.int .u32 a1_6) := (blk_cell BK102.out 6).trans rfl
            have hcz49_7 : wr.cell? ⟨gb102, 7, none⟩ = some (.int .u64 a1_7) := (blk_cell BK102.out 7).trans rfl
            have hcz49_8 : wr.cell? ⟨gb102, 8, none⟩ = some (.int .u32 a1_8) := (blk_cell BK102.out 8).trans rfl
            have hcz49_9 : wr.cell? ⟨gb102, 9, none⟩ = some (.string a1_9) := (blk_cell BK102.out 9).trans rfl
            have hcz49_10 : wr.cell? ⟨gb102, 10, none⟩ = some (.int .u8 a1_10) := (blk_cell BK102.out 10).trans rfl
            have hcz49_11 : wr.cell? ⟨gb102, 11, none⟩ = some (.bool a1_11) := (blk_cell BK102.out 11).trans rfl
            have hcz49_12 : wr.cell? ⟨gb102, 12, none⟩ = some (.slice A1_12 l1_12.length c1_12) := (blk_cell BK102.out 12).trans rfl
            have hfz49_0 := blk_frozen BK102.out 0
            have hfz49_1 := blk_frozen BK102.out 1
            have hfz49_2 := blk_frozen BK102.out 2
            have hfz49_3 := blk_frozen BK102.out 3
            have hfz49_4 := blk_frozen BK102.out 4
            have hfz49_5 := blk_frozen BK102.out 5
            have hfz49_6 := blk_frozen BK102.out 6
            have hfz49_7 := blk_frozen BK102.out 7
            have hfz49_8 := blk_frozen BK102.out 8
            have hfz49_9 := blk_frozen BK102.out 9
            have hfz49_10 := blk_frozen BK102.out 10
            have hfz49_11 := blk_frozen BK102.out 11
            have hfz49_12 := blk_frozen BK102.out 12
            go_wp2
            repeat (go_quiet (fail); try go_wp2)
            go_ret
            exact ⟨by first | rfl | (simp [errW_none, errW_some] <;> rfl) | (simp [*, errW_none, errW_some] <;> rfl), by repeat (first | (with_reducible first | exact HB.out | apply below_alloc | apply pw_below_drewN | apply below_drew1 | refine below_set ?_ GE101.out | refine below_set ?_ GE102.out) | exact HB.out)⟩
  · rw [if_neg c3] at H
    have c3b0 : ((l0_12.length : Int) == (l1_12.length : Int)) = false := beq_eq_false_iff_ne.mpr c3
    have c3b1 : ((l0_12.length : Int) != (l1_12.length : Int)) = true := bne_iff_ne.mpr c3
    have c3b2 : (l0_12.length == l1_12.length) = false := by first | simpa using c3 | (simp at c3 ⊢; omega)
    obtain rfl := Option.some.inj H
    go_enter Try.func12, Try.ntmps12
    go_wp2_with (first | ((with_reducible refine gate_dst (N := 2) rfl ?_); refine box_event ?hg (N := 2) ?hd (cs := #[.int .i64 a0_0, .int .u32 a0_1, .int .u32 a0_2, .int .u64 a0_3, .int .u32 a0_4, .int .u64 a0_5, .int .u32 a0_6, .int .u64 a0_7, .int .u32 a0_8, .string a0_9, .int .u8 a0_10, .bool a0_11, .slice A0_12 l0_12.length c0_12]) (t := 30) ?hr ?_; (case hd => rfl); (case hg => rfl); (case hr => first | (go_simp; done) | (go_simp; rfl)); intro gb101 hg w50 hbox hb; have n0_ := Aside0.mk (below_step (by repeat (first | (with_reducible first | exact HB.out | apply below_alloc | apply pw_below_drewN | apply below_drew1) | exact HB.out)) hb); have n1_ := Aside0.mk (hbox); have n2_ := Aside0.mk ((by rw [hg]; exact (below_size (by repeat (first | (with_reducible first | exact HB.out | apply below_alloc | apply pw_below_drewN | apply below_drew1) | exact HB.out))) : w.heap.size ≤ gb101)); have n3_ := Aside0.mk ((by rw [hg]; exact (below_size (by repeat (first | (with_reducible first | exact HB.out | apply below_alloc | apply pw_below_drewN | apply below_drew1) | exact HB.out))) : w.heap.size ≤ gb101)); clear HB; have HB := n0_; have BK101 := n1_; have GW101 := n2_; have GE101 := n3_; clear n0_ n1_ n2_ n3_; clear hb hbox hg) | ((with_reducible refine gate_dst (N := 3) rfl ?_); refine box_event ?hg (N := 3) ?hd (cs := #[.int .i64 a1_0, .int .u32 a1_1, .int .u32 a1_2, .int .u64 a1_3, .int .u32 a1_4, .int .u64 a1_5, .int .u32 a1_6, .int .u64 a1_7, .int .u32 a1_8, .string a1_9, .int .u8 a1_10, .bool a1_11, .slice A1_12 l1_12.length c1_12]) (t := 30) ?hr ?_; (case hd => rfl); (case hg => rfl); (case hr => first | (go_simp; done) | (go_simp; rfl)); intro gb102 hg w51 hbox hb; have n0_ := Aside0.mk (blk_below (g := gb101) (o := .cells #[.int .i64 a0_0, .int .u32 a0_1, .int .u32 a0_2, .int .u64 a0_3, .int .u32 a0_4, .int .u64 a0_5, .int .u32 a0_6, .int .u64 a0_7, .int .u32 a0_8, .string a0_9, .int .u8 a0_10, .bool a0_11, .slice A0_12 l0_12.length c0_12] 30 (0, 0)) (by (with_reducible repeat (first | refine blk_drewN ?_ _ | refine blk_drew ?_ | refine blk_alloc ?_ _)); exact BK101.out) hb); have n1_ := Aside0.mk (below_step (by repeat (first | (with_reducible first | exact HB.out | apply below_alloc | apply pw_below_drewN | apply below_drew1 | refine below_set ?_ GE101.out) | exact HB.out)) hb); have n2_ := Aside0.mk (hbox); have n3_ := Aside0.mk ((by rw [hg]; exact (below_size (by repeat (first | (with_reducible first | exact HB.out | apply below_alloc | apply pw_below_drewN | apply below_drew1 | refine below_set ?_ GE101.out) | exact HB.out))) : w.heap.size ≤ gb102)); have n4_ := Aside0.mk ((by rw [hg]; exact (below_size (by repeat (first | (with_reducible first | exact HB.out | apply below_alloc | apply pw_below_drewN | apply below_drew1 | refine below_set ?_ GE101.out) | exact HB.out))) : w.heap.size ≤ gb102)); have n5_ := Aside0.mk ((by rw [hg]; exact Nat.ne_of_lt (blk_lt (g := gb101) (o := .cells #[.int .i64 a0_0, .int .u32 a0_1, .int .u32 a0_2, .int .u64 a0_3, .int .u32 a0_4, .int .u64 a0_5, .int .u32 a0_6, .int .u64 a0_7, .int .u32 a0_8, .string a0_9, .int .u8 a0_10, .bool a0_11, .slice A0_12 l0_12.length c0_12] 30 (0, 0)) (by (with_reducible repeat (first | refine blk_drewN ?_ _ | refine blk_drew ?_ | refine blk_alloc ?_ _)); exact BK101.out)) : gb101 ≠ gb102)); have n6_ := Aside0.mk ((by rw [hg]; exact Nat.ne_of_gt (blk_lt (g := gb101) (o := .cells #[.int .i64 a0_0, .int .u32 a0_1, .int .u32 a0_2, .int .u64 a0_3, .int .u32 a0_4, .int .u64 a0_5, .int .u32 a0_6, .int .u64 a0_7, .int .u32 a0_8, .string a0_9, .int .u8 a0_10, .bool a0_11, .slice A0_12 l0_12.length c0_12] 30 (0, 0)) (by (with_reducible repeat (first | refine blk_drewN ?_ _ | refine blk_drew ?_ | refine blk_alloc ?_ _)); exact BK101.out)) : gb102 ≠ gb101)); clear BK101; clear HB; have BK101 := n0_; have HB := n1_; have BK102 := n2_; have GW102 := n3_; have GE102 := n4_; have NB101_102 := n5_; have NB102_101 := n6_; clear n0_ n1_ n2_ n3_ n4_ n5_ n6_; clear hb hbox hg; have hnb52 := NB101_102.out; have hnc52 := NB102_101.out; have hcz53_0 : w51.cell? ⟨gb101, 0, none⟩ = some (.int .i64 a0_0) := (blk_cell BK101.out 0).trans rfl; have hcz53_1 : w51.cell? ⟨gb101, 1, none⟩ = some (.int .u32 a0_1) := (blk_cell BK101.out 1).trans rfl; have hcz53_2 : w51.cell? ⟨gb101, 2, none⟩ = some (.int .u32 a0_2) := (blk_cell BK101.out 2).trans rfl; have hcz53_3 : w51.cell? ⟨gb101, 3, none⟩ = some (.int .u64 a0_3) := (blk_cell BK101.out 3).trans rfl; have hcz53_4 : w51.cell? ⟨gb101, 4, none⟩ = some (.int .u32 a0_4) := (blk_cell BK101.out 4).trans rfl; have hcz53_5 : w51.cell? ⟨gb101, 5, none⟩ = some (.int .u64 a0_5) := (blk_cell BK101.out 5).trans rfl; have hcz53_6 : w51.cell? ⟨gb101, 6, none⟩ = some (.int .u32 a0_6) := (blk_cell BK101.out 6).trans rfl; have hcz53_7 : w51.cell? ⟨gb101, 7, none⟩ = some (.int .u64 a0_7) := (blk_cell BK101.out 7).trans rfl; have hcz53_8 : w51.cell? ⟨gb101, 8, none⟩ = some (.int .u32 a0_8) := (blk_cell BK101.out 8).trans rfl; have hcz53_9 : w51.cell? ⟨gb101, 9, none⟩ = some (.string a0_9) := (blk_cell BK101.out 9).trans rfl; have hcz53_10 : w51.cell? ⟨gb101, 10, none⟩ = some (.int .u8 a0_10) := (blk_cell BK101.out 10).trans rfl; have hcz53_11 : w51.cell? ⟨gb101, 11, none⟩ = some (.bool a0_11) := (blk_cell BK101.out 11).trans rfl; have hcz53_12 : w51.cell? ⟨gb101, 12, none⟩ = some (.slice A0_12 l0_12.length c0_12) := (blk_cell BK101.out 12).trans rfl; have hfz53_0 := blk_frozen BK101.out 0; have hfz53_1 := blk_frozen BK101.out 1; have hfz53_2 := blk_frozen BK101.out 2; have hfz53_3 := blk_frozen BK101.out 3; have hfz53_4 := blk_frozen BK101.out 4; have hfz53_5 := blk_frozen BK101.out 5; have hfz53_6 := blk_frozen BK101.out 6; have hfz53_7 := blk_frozen BK101.out 7; have hfz53_8 := blk_frozen BK101.out 8; have hfz53_9 := blk_frozen BK101.out 9; have hfz53_10 := blk_frozen BK101.out 10; have hfz53_11 := blk_frozen BK101.out 11; have hfz53_12 := blk_frozen BK101.out 12; have hcz54_0 : w51.cell? ⟨gb102, 0, none⟩ = some (.int .i64 a1_0) := (blk_cell BK102.out 0).trans rfl; have hcz54_1 : w51.cell? ⟨gb102, 1, none⟩ = some (.int .u32 a1_1) := (blk_cell BK102.out 1).trans rfl; have hcz54_2 : w51.cell? ⟨gb102, 2, none⟩ = some (.int .u32 a1_2) := (blk_cell BK102.out 2).trans rfl; have hcz54_3 : w51.cell? ⟨gb102, 3, none⟩ = some (.int .u64 a1_3) := (blk_cell BK102.out 3).trans rfl; have hcz54_4 : w51.cell? ⟨gb102, 4, none⟩ = some (.int .u32 a1_4) := (blk_cell BK102.out 4).trans rfl; have hcz54_5 : w51.cell? ⟨gb102, 5, none⟩ = some (.int .u64 a1_5) := (blk_cell BK102.out 5).trans rfl; have hcz54_6 : w51.cell? ⟨gb102, 6, none⟩ = some (.int .u32 a1_6) := (blk_cell BK102.out 6).trans rfl; have hcz54_7 : w51.cell? ⟨gb102, 7, none⟩ = some (.int .u64 a1_7) := (blk_cell BK102.out 7).trans rfl; have hcz54_8 : w51.cell? ⟨gb102, 8, none⟩ = some (.int .u32 a1_8) := (blk_cell BK102.out 8).trans rfl; have hcz54_9 : w51.cell? ⟨gb102, 9, none⟩ = some (.string a1_9) := (blk_cell BK102.out 9).trans rfl; have hcz54_10 : w51.cell? ⟨gb102, 10, none⟩ = some (.int .u8 a1_10) := (blk_cell BK102.out 10).trans rfl; have hcz54_11 : w51.cell? ⟨gb102, 11, none⟩ = some (.bool a1_11) := (blk_cell BK102.out 11).trans rfl; have hcz54_12 : w51.cell? ⟨gb102, 12, none⟩ = some (.slice A1_12 l1_12.length c1_12) := (blk_cell BK102.out 12).trans rfl; have hfz54_0 := blk_frozen BK102.out 0; have hfz54_1 := blk_frozen BK102.out 1; have hfz54_2 := blk_frozen BK102.out 2; have hfz54_3 := blk_frozen BK102.out 3; have hfz54_4 := blk_frozen BK102.out 4; have hfz54_5 := blk_frozen BK102.out 5; have hfz54_6 := blk_frozen BK102.out 6; have hfz54_7 := blk_frozen BK102.out 7; have hfz54_8 := blk_frozen BK102.out 8; have hfz54_9 := blk_frozen BK102.out 9; have hfz54_10 := blk_frozen BK102.out 10; have hfz54_11 := blk_frozen BK102.out 11; have hfz54_12 := blk_frozen BK102.out 12))
    repeat (go_quiet (first | ((with_reducible refine gate_dst (N := 2) rfl ?_); refine box_event ?hg (N := 2) ?hd (cs := #[.int .i64 a0_0, .int .u32 a0_1, .int .u32 a0_2, .int .u64 a0_3, .int .u32 a0_4, .int .u64 a0_5, .int .u32 a0_6, .int .u64 a0_7, .int .u32 a0_8, .string a0_9, .int .u8 a0_10, .bool a0_11, .slice A0_12 l0_12.length c0_12]) (t := 30) ?hr ?_; (case hd => rfl); (case hg => rfl); (case hr => first | (go_simp; done) | (go_simp; rfl)); intro gb101 hg w50 hbox hb; have n0_ := Aside0.mk (below_step (by repeat (first | (with_reducible first | exact HB.out | apply below_alloc | apply pw_below_drewN | apply below_drew1) | exact HB.out)) hb); have n1_ := Aside0.mk (hbox); have n2_ := Aside0.mk ((by rw [hg]; exact (below_size (by repeat (first | (with_reducible first | exact HB.out | apply below_alloc | apply pw_below_drewN | apply below_drew1) | exact HB.out))) : w.heap.size ≤ gb101)); have n3_ := Aside0.mk ((by rw [hg]; exact (below_size (by repeat (first | (with_reducible first | exact HB.out | apply below_alloc | apply pw_below_drewN | apply below_drew1) | exact HB.out))) : w.heap.size ≤ gb101)); clear HB; have HB := n0_; have BK101 := n1_; have GW101 := n2_; have GE101 := n3_; clear n0_ n1_ n2_ n3_; clear hb hbox hg) | ((with_reducible refine gate_dst (N := 3) rfl ?_); refine box_event ?hg (N := 3) ?hd (cs := #[.int .i64 a1_0, .int .u32 a1_1, .int .u32 a1_2, .int .u64 a1_3, .int .u32 a1_4, .int .u64 a1_5, .int .u32 a1_6, .int .u64 a1_7, .int .u32 a1_8, .string a1_9, .int .u8 a1_10, .bool a1_11, .slice A1_12 l1_12.length c1_12]) (t := 30) ?hr ?_; (case hd => rfl); (case hg => rfl); (case hr => first | (go_simp; done) | (go_simp; rfl)); intro gb102 hg w51 hbox hb; have n0_ := Aside0.mk (blk_below (g := gb101) (o := .cells #[.int .i64 a0_0, .int .u32 a0_1, .int .u32 a0_2, .int .u64 a0_3, .int .u32 a0_4, .int .u64 a0_5, .int .u32 a0_6, .int .u64 a0_7, .int .u32 a0_8, .string a0_9, .int .u8 a0_10, .bool a0_11, .slice A0_12 l0_12.length c0_12] 30 (0, 0)) (by (with_reducible repeat (first | refine blk_drewN ?_ _ | refine blk_drew ?_ | refine blk_alloc ?_ _)); exact BK101.out) hb); have n1_ := Aside0.mk (below_step (by repeat (first | (with_reducible first | exact HB.out | apply below_alloc | apply pw_below_drewN | apply below_drew1 | refine below_set ?_ GE101.out) | exact HB.out)) hb); have n2_ := Aside0.mk (hbox); have n3_ := Aside0.mk ((by rw [hg]; exact (below_size (by repeat (first | (with_reducible first | exact HB.out | apply below_alloc | apply pw_below_drewN | apply below_drew1 | refine below_set ?_ GE101.out) | exact HB.out))) : w.heap.size ≤ gb102)); have n4_ := Aside0.mk ((by rw [hg]; exact (below_size (by repeat (first | (with_reducible first | exact HB.out | apply below_alloc | apply pw_below_drewN | apply below_drew1 | refine below_set ?_ GE101.out) | exact HB.out))) : w.heap.size ≤ gb102)); have n5_ := Aside0.mk ((by rw [hg]; exact Nat.ne_of_lt (blk_lt (g := gb101) (o := .cells #[.int .i64 a0_0, .int .u32 a0_1, .int .u32 a0_2, .int .u64 a0_3, .int .u32 a0_4, .int .u64 a0_5, .int .u32 a0_6, .int .u64 a0_7, .int .u32 a0_8, .string a0_9, .int .u8 a0_10, .bool a0_11, .slice A0_12 l0_12.length c0_12] 30 (0, 0)) (by (with_reducible repeat (first | refine blk_drewN ?_ _ | refine blk_drew ?_ | refine blk_alloc ?_ _)); exact BK101.out)) : gb101 ≠ gb102)); have n6_ := Aside0.mk ((by rw [hg]; exact Nat.ne_of_gt (blk_lt (g := gb101) (o := .cells #[.int .i64 a0_0, .int .u32 a0_1, .int .u32 a0_2, .int .u64 a0_3, .int .u32 a0_4, .int .u64 a0_5, .int .u32 a0_6, .int .u64 a0_7, .int .u32 a0_8, .string a0_9, .int .u8 a0_10, .bool a0_11, .slice A0_12 l0_12.length c0_12] 30 (0, 0)) (by (with_reducible repeat (first | refine blk_drewN ?_ _ | refine blk_drew ?_ | refine blk_alloc ?_ _)); exact BK101.out)) : gb102 ≠ gb101)); clear BK101; clear HB; have BK101 := n0_; have HB := n1_; have BK102 := n2_; have GW102 := n3_; have GE102 := n4_; have NB101_102 := n5_; have NB102_101 := n6_; clear n0_ n1_ n2_ n3_ n4_ n5_ n6_; clear hb hbox hg; have hnb52 := NB101_102.out; have hnc52 := NB102_101.out; have hcz53_0 : w51.cell? ⟨gb101, 0, none⟩ = some (.int .i64 a0_0) := (blk_cell BK101.out 0).trans rfl; have hcz53_1 : w51.cell? ⟨gb101, 1, none⟩ = some (.int .u32 a0_1) := (blk_cell BK101.out 1).trans rfl; have hcz53_2 : w51.cell? ⟨gb101, 2, none⟩ = some (.int .u32 a0_2) := (blk_cell BK101.out 2).trans rfl; have hcz53_3 : w51.cell? ⟨gb101, 3, none⟩ = some (.int .u64 a0_3) := (blk_cell BK101.out 3).trans rfl; have hcz53_4 : w51.cell? ⟨gb101, 4, none⟩ = some (.int .u32 a0_4) := (blk_cell BK101.out 4).trans rfl; have hcz53_5 : w51.cell? ⟨gb101, 5, none⟩ = some (.int .u64 a0_5) := (blk_cell BK101.out 5).trans rfl; have hcz53_6 : w51.cell? ⟨gb101, 6, none⟩ = some (.int .u32 a0_6) := (blk_cell BK101.out 6).trans rfl; have hcz53_7 : w51.cell? ⟨gb101, 7, none⟩ = some (.int .u64 a0_7) := (blk_cell BK101.out 7).trans rfl; have hcz53_8 : w51.cell? ⟨gb101, 8, none⟩ = some (.int .u32 a0_8) := (blk_cell BK101.out 8).trans rfl; have hcz53_9 : w51.cell? ⟨gb101, 9, none⟩ = some (.string a0_9) := (blk_cell BK101.out 9).trans rfl; have hcz53_10 : w51.cell? ⟨gb101, 10, none⟩ = some (.int .u8 a0_10) := (blk_cell BK101.out 10).trans rfl; have hcz53_11 : w51.cell? ⟨gb101, 11, none⟩ = some (.bool a0_11) := (blk_cell BK101.out 11).trans rfl; have hcz53_12 : w51.cell? ⟨gb101, 12, none⟩ = some (.slice A0_12 l0_12.length c0_12) := (blk_cell BK101.out 12).trans rfl; have hfz53_0 := blk_frozen BK101.out 0; have hfz53_1 := blk_frozen BK101.out 1; have hfz53_2 := blk_frozen BK101.out 2; have hfz53_3 := blk_frozen BK101.out 3; have hfz53_4 := blk_frozen BK101.out 4; have hfz53_5 := blk_frozen BK101.out 5; have hfz53_6 := blk_frozen BK101.out 6; have hfz53_7 := blk_frozen BK101.out 7; have hfz53_8 := blk_frozen BK101.out 8; have hfz53_9 := blk_frozen BK101.out 9; have hfz53_10 := blk_frozen BK101.out 10; have hfz53_11 := blk_frozen BK101.out 11; have hfz53_12 := blk_frozen BK101.out 12; have hcz54_0 : w51.cell? ⟨gb102, 0, none⟩ = some (.int .i64 a1_0) := (blk_cell BK102.out 0).trans rfl; have hcz54_1 : w51.cell? ⟨gb102, 1, none⟩ = some (.int .u32 a1_1) := (blk_cell BK102.out 1).trans rfl; have hcz54_2 : w51.cell? ⟨gb102, 2, none⟩ = some (.int .u32 a1_2) := (blk_cell BK102.out 2).trans rfl; have hcz54_3 : w51.cell? ⟨gb102, 3, none⟩ = some (.int .u64 a1_3) := (blk_cell BK102.out 3).trans rfl; have hcz54_4 : w51.cell? ⟨gb102, 4, none⟩ = some (.int .u32 a1_4) := (blk_cell BK102.out 4).trans rfl; have hcz54_5 : w51.cell? ⟨gb102, 5, none⟩ = some (.int .u64 a1_5) := (blk_cell BK102.out 5).trans rfl; have hcz54_6 : w51.cell? ⟨gb102, 6, none⟩ = some (.int .u32 a1_6) := (blk_cell BK102.out 6).trans rfl; have hcz54_7 : w51.cell? ⟨gb102, 7, none⟩ = some (.int .u64 a1_7) := (blk_cell BK102.out 7).trans rfl; have hcz54_8 : w51.cell? ⟨gb102, 8, none⟩ = some (.int .u32 a1_8) := (blk_cell BK102.out 8).trans rfl; have hcz54_9 : w51.cell? ⟨gb102, 9, none⟩ = some (.string a1_9) := (blk_cell BK102.out 9).trans rfl; have hcz54_10 : w51.cell? ⟨gb102, 10, none⟩ = some (.int .u8 a1_10) := (blk_cell BK102.out 10).trans rfl; have hcz54_11 : w51.cell? ⟨gb102, 11, none⟩ = some (.bool a1_11) := (blk_cell BK102.out 11).trans rfl; have hcz54_12 : w51.cell? ⟨gb102, 12, none⟩ = some (.slice A1_12 l1_12.length c1_12) := (blk_cell BK102.out 12).trans rfl; have hfz54_0 := blk_frozen BK102.out 0; have hfz54_1 := blk_frozen BK102.out 1; have hfz54_2 := blk_frozen BK102.out 2; have hfz54_3 := blk_frozen BK102.out 3; have hfz54_4 := blk_frozen BK102.out 4; have hfz54_5 := blk_frozen BK102.out 5; have hfz54_6 := blk_frozen BK102.out 6; have hfz54_7 := blk_frozen BK102.out 7; have hfz54_8 := blk_frozen BK102.out 8; have hfz54_9 := blk_frozen BK102.out 9; have hfz54_10 := blk_frozen BK102.out 10; have hfz54_11 := blk_frozen BK102.out 11; have hfz54_12 := blk_frozen BK102.out 12)); try go_wp2_with (first | ((with_reducible refine gate_dst (N := 2) rfl ?_); refine box_event ?hg (N := 2) ?hd (cs := #[.int .i64 a0_0, .int .u32 a0_1, .int .u32 a0_2, .int .u64 a0_3, .int .u32 a0_4, .int .u64 a0_5, .int .u32 a0_6, .int .u64 a0_7, .int .u32 a0_8, .string a0_9, .int .u8 a0_10, .bool a0_11, .slice A0_12 l0_12.length c0_12]) (t := 30) ?hr ?_; (case hd => rfl); (case hg => rfl); (case hr => first | (go_simp; done) | (go_simp; rfl)); intro gb101 hg w50 hbox hb; have n0_ := Aside0.mk (below_step (by repeat (first | (with_reducible first | exact HB.out | apply below_alloc | apply pw_below_drewN | apply below_drew1) | exact HB.out)) hb); have n1_ := Aside0.mk (hbox); have n2_ := Aside0.mk ((by rw [hg]; exact (below_size (by repeat (first | (with_reducible first | exact HB.out | apply below_alloc | apply pw_below_drewN | apply below_drew1) | exact HB.out))) : w.heap.size ≤ gb101)); have n3_ := Aside0.mk ((by rw [hg]; exact (below_size (by repeat (first | (with_reducible first | exact HB.out | apply below_alloc | apply pw_below_drewN | apply below_drew1) | exact HB.out))) : w.heap.size ≤ gb101)); clear HB; have HB := n0_; have BK101 := n1_; have GW101 := n2_; have GE101 := n3_; clear n0_ n1_ n2_ n3_; clear hb hbox hg) | ((with_reducible refine gate_dst (N := 3) rfl ?_); refine box_event ?hg (N := 3) ?hd (cs := #[.int .i64 a1_0, .int .u32 a1_1, .int .u32 a1_2, .int .u64 a1_3, .int .u32 a1_4, .int .u64 a1_5, .int .u32 a1_6, .int .u64 a1_7, .int .u32 a1_8, .string a1_9, .int .u8 a1_10, .bool a1_11, .slice A1_12 l1_12.length c1_12]) (t := 30) ?hr ?_; (case hd => rfl); (case hg => rfl); (case hr => first | (go_simp; done) | (go_simp; rfl)); intro gb102 hg w51 hbox hb; have n0_ := Aside0.mk (blk_below (g := gb101) (o := .cells #[.int .i64 a0_0, .int .u32 a0_1, .int .u32 a0_2, .int .u64 a0_3, .int .u32 a0_4, .int .u64 a0_5, .int .u32 a0_6, .int .u64 a0_7, .int .u32 a0_8, .string a0_9, .int .u8 a0_10, .bool a0_11, .slice A0_12 l0_12.length c0_12] 30 (0, 0)) (by (with_reducible repeat (first | refine blk_drewN ?_ _ | refine blk_drew ?_ | refine blk_alloc ?_ _)); exact BK101.out) hb); have n1_ := Aside0.mk (below_step (by repeat (first | (with_reducible first | exact HB.out | apply below_alloc | apply pw_below_drewN | apply below_drew1 | refine below_set ?_ GE101.out) | exact HB.out)) hb); have n2_ := Aside0.mk (hbox); have n3_ := Aside0.mk ((by rw [hg]; exact (below_size (by repeat (first | (with_reducible first | exact HB.out | apply below_alloc | apply pw_below_drewN | apply below_drew1 | refine below_set ?_ GE101.out) | exact HB.out))) : w.heap.size ≤ gb102)); have n4_ := Aside0.mk ((by rw [hg]; exact (below_size (by repeat (first | (with_reducible first | exact HB.out | apply below_alloc | apply pw_below_drewN | apply below_drew1 | refine below_set ?_ GE101.out) | exact HB.out))) : w.heap.size ≤ gb102)); have n5_ := Aside0.mk ((by rw [hg]; exact Nat.ne_of_lt (blk_lt (g := gb101) (o := .cells #[.int .i64 a0_0, .int .u32 a0_1, .int .u32 a0_2, .int .u64 a0_3, .int .u32 a0_4, .int .u64 a0_5, .int .u32 a0_6, .int .u64 a0_7, .int .u32 a0_8, .string a0_9, .int .u8 a0_10, .bool a0_11, .slice A0_12 l0_12.length c0_12] 30 (0, 0)) (by (with_reducible repeat (first | refine blk_drewN ?_ _ | refine blk_drew ?_ | refine blk_alloc ?_ _)); exact BK101.out)) : gb101 ≠ gb102)); have n6_ := Aside0.mk ((by rw [hg]; exact Nat.ne_of_gt (blk_lt (g := gb101) (o := .cells #[.int .i64 a0_0, .int .u32 a0_1, .int .u32 a0_2, .int .u64 a0_3, .int .u32 a0_4, .int .u64 a0_5, .int .u32 a0_6, .int .u64 a0_7, .int .u32 a0_8, .string a0_9, .int .u8 a0_10, .bool a0_11, .slice A0_12 l0_12.length c0_12] 30 (0, 0)) (by (with_reducible repeat (first | refine blk_drewN ?_ _ | refine blk_drew ?_ | refine blk_alloc ?_ _)); exact BK101.out)) : gb102 ≠ gb101)); clear BK101; clear HB; have BK101 := n0_; have HB := n1_; have BK102 := n2_; have GW102 := n3_; have GE102 := n4_; have NB101_102 := n5_; have NB102_101 := n6_; clear n0_ n1_ n2_ n3_ n4_ n5_ n6_; clear hb hbox hg; have hnb52 := NB101_102.out; have hnc52 := NB102_101.out; have hcz53_0 : w51.cell? ⟨gb101, 0, none⟩ = some (.int .i64 a0_0) := (blk_cell BK101.out 0).trans rfl; have hcz53_1 : w51.cell? ⟨gb101, 1, none⟩ = some (.int .u32 a0_1) := (blk_cell BK101.out 1).trans rfl; have hcz53_2 : w51.cell? ⟨gb101, 2, none⟩ = some (.int .u32 a0_2) := (blk_cell BK101.out 2).trans rfl; have hcz53_3 : w51.cell? ⟨gb101, 3, none⟩ = some (.int .u64 a0_3) := (blk_cell BK101.out 3).trans rfl; have hcz53_4 : w51.cell? ⟨gb101, 4, none⟩ = some (.int .u32 a0_4) := (blk_cell BK101.out 4).trans rfl; have hcz53_5 : w51.cell? ⟨gb101, 5, none⟩ = some (.int .u64 a0_5) := (blk_cell BK101.out 5).trans rfl; have hcz53_6 : w51.cell? ⟨gb101, 6, none⟩ = some (.int .u32 a0_6) := (blk_cell BK101.out 6).trans rfl; have hcz53_7 : w51.cell? ⟨gb101, 7, none⟩ = some (.int .u64 a0_7) := (blk_cell BK101.out 7).trans rfl; have hcz53_8 : w51.cell? ⟨gb101, 8, none⟩ = some (.int .u32 a0_8) := (blk_cell BK101.out 8).trans rfl; have hcz53_9 : w51.cell? ⟨gb101, 9, none⟩ = some (.string a0_9) := (blk_cell BK101.out 9).trans rfl; have hcz53_10 : w51.cell? ⟨gb101, 10, none⟩ = some (.int .u8 a0_10) := (blk_cell BK101.out 10).trans rfl; have hcz53_11 : w51.cell? ⟨gb101, 11, none⟩ = some (.bool a0_11) := (blk_cell BK101.out 11).trans rfl; have hcz53_12 : w51.cell? ⟨gb101, 12, none⟩ = some (.slice A0_12 l0_12.length c0_12) := (blk_cell BK101.out 12).trans rfl; have hfz53_0 := blk_frozen BK101.out 0; have hfz53_1 := blk_frozen BK101.out 1; have hfz53_2 := blk_frozen BK101.out 2; have hfz53_3 := blk_frozen BK101.out 3; have hfz53_4 := blk_frozen BK101.out 4; have hfz53_5 := blk_frozen BK101.out 5; have hfz53_6 := blk_frozen BK101.out 6; have hfz53_7 := blk_frozen BK101.out 7; have hfz53_8 := blk_frozen BK101.out 8; have hfz53_9 := blk_frozen BK101.out 9; have hfz53_10 := blk_frozen BK101.out 10; have hfz53_11 := blk_frozen BK101.out 11; have hfz53_12 := blk_frozen BK101.out 12; have hcz54_0 : w51.cell? ⟨gb102, 0, none⟩ = some (.int .i64 a1_0) := (blk_cell BK102.out 0).trans rfl; have hcz54_1 : w51.cell? ⟨gb102, 1, none⟩ = some (.int .u32 a1_1) := (blk_cell BK102.out 1).trans rfl; have hcz54_2 : w51.cell? ⟨gb102, 2, none⟩ = some (.int .u32 a1_2) := (blk_cell BK102.out 2).trans rfl; have hcz54_3 : w51.cell? ⟨gb102, 3, none⟩ = some (.int .u64 a1_3) := (blk_cell BK102.out 3).trans rfl; have hcz54_4 : w51.cell? ⟨gb102, 4, none⟩ = some (.int .u32 a1_4) := (blk_cell BK102.out 4).trans rfl; have hcz54_5 : w51.cell? ⟨gb102, 5, none⟩ = some (.int .u64 a1_5) := (blk_cell BK102.out 5).trans rfl; have hcz54_6 : w51.cell? ⟨gb102, 6, none⟩ = some (.int .u32 a1_6) := (blk_cell BK102.out 6).trans rfl; have hcz54_7 : w51.cell? ⟨gb102, 7, none⟩ = some (.int .u64 a1_7) := (blk_cell BK102.out 7).trans rfl; have hcz54_8 : w51.cell? ⟨gb102, 8, none⟩ = some (.int .u32 a1_8) := (blk_cell BK102.out 8).trans rfl; have hcz54_9 : w51.cell? ⟨gb102, 9, none⟩ = some (.string a1_9) := (blk_cell BK102.out 9).trans rfl; have hcz54_10 : w51.cell? ⟨gb102, 10, none⟩ = some (.int .u8 a1_10) := (blk_cell BK102.out 10).trans rfl; have hcz54_11 : w51.cell? ⟨gb102, 11, none⟩ = some (.bool a1_11) := (blk_cell BK102.out 11).trans rfl; have hcz54_12 : w51.cell? ⟨gb102, 12, none⟩ = some (.slice A1_12 l1_12.length c1_12) := (blk_cell BK102.out 12).trans rfl; have hfz54_0 := blk_frozen BK102.out 0; have hfz54_1 := blk_frozen BK102.out 1; have hfz54_2 := blk_frozen BK102.out 2; have hfz54_3 := blk_frozen BK102.out 3; have hfz54_4 := blk_frozen BK102.out 4; have hfz54_5 := blk_frozen BK102.out 5; have hfz54_6 := blk_frozen BK102.out 6; have hfz54_7 := blk_frozen BK102.out 7; have hfz54_8 := blk_frozen BK102.out 8; have hfz54_9 := blk_frozen BK102.out 9; have hfz54_10 := blk_frozen BK102.out 10; have hfz54_11 := blk_frozen BK102.out 11; have hfz54_12 := blk_frozen BK102.out 12)))
    go_ret
    exact ⟨by first | rfl | (simp [errW_none, errW_some] <;> rfl) | (simp [*, errW_none, errW_some] <;> rfl), by repeat (first | (with_reducible first | exact HB.out | apply below_alloc | apply pw_below_drewN | apply below_drew1 | refine below_set ?_ GE101.out | refine below_set ?_ GE102.out) | exact HB.out)⟩

end Go.Proofs.Ytblabgdkbcphkaa.PEs

/- Contracts of Go functions and what each computes, as plain Lean functions: written by a program of this session over the kit's own print. Conditions: those that each theorem names. -/
namespace Go.Proofs.Ytblabgdkbcphkaa.PEs
open Go.Proofs.Ytblabgdkbcphkaa Go.Proofs.Ytblabgdkbcphkaa.PRd Go.Proofs.Ytblabgdkbcphkaa.PRt
open Go.RowKit Go.Proofs.YtblabgdkbcphkaaW.PrintWords Go.Proofs.YtblabgdkbcphkaaW.PrintLast Go.Proofs.YtblabgdkbcphkaaW.PrintMore
attribute [local go_sem] max2_int min2_int max_two min_two max_three min_three max_four min_four   -- for this text's walks alone
set_option linter.unusedVariables false
set_option linter.unusedSimpArgs false

/-! ### dovecoteref09_Key: function 47 -/
def dovecoteref09_Key.f (a0 : ByteArray) : Option (Bool) := if (a0.size : Int) ≥ 1 then (some (decide ((a0.size : Int) ≤ 32))) else (some false)
set_option maxHeartbeats 8000000 in
set_option maxRecDepth 100000 in
theorem dovecoteref09_Key.calls (a0 : ByteArray) (r : Bool) (w : World) (h : dovecoteref09_Key.f a0 = some r) :
    Calls Try.prog 47 #[.string a0] w fun e w' => e = .returned (.bool r) ∧ Drawn0 w w' := by
  have H : (if (a0.size : Int) ≥ 1 then (some (decide ((a0.size : Int) ≤ 32))) else (some false)) = some r := h
  clear h
  by_cases c2 : (a0.size : Int) ≥ 1
  · rw [if_pos c2] at H
    have c2b0 : decide (1 ≤ (a0.size : Int)) = true := decide_eq_true c2
    have c2b1 : decide (1 ≤ a0.size) = true := decide_eq_true (by omega)
    clear c2
    obtain rfl := Option.some.inj H
    go_enter Try.func47, Try.ntmps47
    go_wp2
    go_ret
    exact ⟨by first | rfl | (simp; done) | (simp [*]; done), by repeat (first | exact Drawn0.refl _ | apply Drawn0.step)⟩
  · rw [if_neg c2] at H
    have c2b0 : decide (1 ≤ (a0.size : Int)) = false := decide_eq_false c2
    have c2b1 : decide (1 ≤ a0.size) = false := decide_eq_false (by omega)
    clear c2
    obtain rfl := Option.some.inj H
    go_enter Try.func47, Try.ntmps47
    go_wp2
    go_ret
    exact ⟨by first | rfl | (simp; done) | (simp [*]; done), by repeat (first | exact Drawn0.refl _ | apply Drawn0.step)⟩

/-- THE ONE PURE STATEMENT of dovecoteref09_Key: yours. -/
def dovecoteref09_Key.Pure : Prop := ∀ (a0 : ByteArray), a0.size ≤ 140737488351232 → dovecoteref09_Key.f a0 = some true
theorem dovecoteref09_Key.walk (P : dovecoteref09_Key.Pure) (a0 : ByteArray) (w : World) (w0 : a0.size ≤ 140737488351232) :
    Calls Try.prog 47 #[.string a0] w fun e w' => e = .returned (.bool true) ∧ Below w.heap.size w w' := by
  have h := P a0 w0
  refine (dovecoteref09_Key.calls a0 true w h).mono ?_
  rintro e w' ⟨rfl, hd⟩
  exact ⟨rfl, hd.below⟩

/-! ### dovecoteref10_Right: function 48 -/
mutual
def dovecoteref10_Right.l0 : Nat → List (S54) → Int → Option (Bool)
  | 0, _, _ => none
  | k + 1, x0, x3 => if x3 < (x0.length : Int) then (if 0 ≤ x3 then ((dovecoteref09_Key.f ((rd_T54 x0 x3).f0)).bind fun t106 => (if t106 = true then (if (((rd_T54 x0 x3).f1).size : Int) > 256 then (dovecoteref10_Right.j1 k x0 x3 true) else (if (rd_T54 x0 x3).f2 = true then (dovecoteref10_Right.j1 k x0 x3 (((rd_T54 x0 x3).f1).toList != ([] : List UInt8))) else (dovecoteref10_Right.j1 k x0 x3 false))) else (dovecoteref10_Right.j1 k x0 x3 true))) else (none)) else (if (x0.length : Int) ≥ 1 then (some (decide ((x0.length : Int) ≤ 16))) else (some false))
def dovecoteref10_Right.j1 : Nat → List (S54) → Int → Bool → Option (Bool)
  | 0, _, _, _ => none
  | k + 1, x0, x3, x41 => if x41 = true then (some false) else (dovecoteref10_Right.l1 k x0 x3 0)
def dovecoteref10_Right.l1 : Nat → List (S54) → Int → Int → Option (Bool)
  | 0, _, _, _ => none
  | k + 1, x0, x3, x4 => if x4 < x3 then (if 0 ≤ x4 then (if x4 < (x0.length : Int) then (if 0 ≤ x3 then (if x3 < (x0.length : Int) then (if ((rd_T54 x0 x4).f0).toList = ((rd_T54 x0 x3).f0).toList then (some false) else (dovecoteref10_Right.l1 k x0 x3 (wrap64 (x4 + 1)))) else (none)) else (none)) else (none)) else (none)) else (dovecoteref10_Right.l0 k x0 (wrap64 (x3 + 1)))
end
def dovecoteref10_Right.f (k : Nat) (l0 : List (S54)) : Option (Bool) := dovecoteref10_Right.l0 k l0 0
theorem dovecoteref10_Right.mono_l : ∀ k, (∀ y0 y1, LeO (dovecoteref10_Right.l0 k y0 y1) (dovecoteref10_Right.l0 (k + 1) y0 y1)) ∧ (∀ y0 y1 y2, LeO (dovecoteref10_Right.j1 k y0 y1 y2) (dovecoteref10_Right.j1 (k + 1) y0 y1 y2)) ∧ (∀ y0 y1 y2, LeO (dovecoteref10_Right.l1 k y0 y1 y2) (dovecoteref10_Right.l1 (k + 1) y0 y1 y2))
  | 0 => ⟨fun _ _ r h => by simp [dovecoteref10_Right.l0] at h, fun _ _ _ r h => by simp [dovecoteref10_Right.j1] at h, fun _ _ _ r h => by simp [dovecoteref10_Right.l1] at h⟩
  | k + 1 => by
    obtain ⟨ih0, ih1, ih2⟩ := dovecoteref10_Right.mono_l k
    refine ⟨?_, ?_, ?_⟩
    · intro y0 y1
      unfold dovecoteref10_Right.l0
      repeat' first
      | (with_reducible exact ih0 _ _)
      | (with_reducible exact ih1 _ _ _)
      | (with_reducible exact ih2 _ _ _)
      | (with_reducible exact LeO.refl _)
      | (with_reducible exact LeO.none _)
      | (with_reducible refine LeO.ite ?_ ?_)
      | (with_reducible refine LeO.bind ?_ (fun _ => ?_))
      | exact ih0 _ _
      | exact ih1 _ _ _
      | exact ih2 _ _ _
      | exact LeO.none _
      | refine LeO.ite ?_ ?_
      | refine LeO.bind ?_ (fun _ => ?_)
    · intro y0 y1 y2
      unfold dovecoteref10_Right.j1
      repeat' first
      | (with_reducible exact ih0 _ _)
      | (with_reducible exact ih1 _ _ _)
      | (with_reducible exact ih2 _ _ _)
      | (with_reducible exact LeO.refl _)
      | (with_reducible exact LeO.none _)
      | (with_reducible refine LeO.ite ?_ ?_)
      | (with_reducible refine LeO.bind ?_ (fun _ => ?_))
      | exact ih0 _ _
      | exact ih1 _ _ _
      | exact ih2 _ _ _
      | exact LeO.none _
      | refine LeO.ite ?_ ?_
      | refine LeO.bind ?_ (fun _ => ?_)
    · intro y0 y1 y2
      unfold dovecoteref10_Right.l1
      repeat' first
      | (with_reducible exact ih0 _ _)
      | (with_reducible exact ih1 _ _ _)
      | (with_reducible exact ih2 _ _ _)
      | (with_reducible exact LeO.refl _)
      | (with_reducible exact LeO.none _)
      | (with_reducible refine LeO.ite ?_ ?_)
      | (with_reducible refine LeO.bind ?_ (fun _ => ?_))
      | exact ih0 _ _
      | exact ih1 _ _ _
      | exact ih2 _ _ _
      | exact LeO.none _
      | refine LeO.ite ?_ ?_
      | refine LeO.bind ?_ (fun _ => ?_)
theorem dovecoteref10_Right.mono : ∀ a0 k, LeO (dovecoteref10_Right.f k a0) (dovecoteref10_Right.f (k + 1) a0) := by
  intro a0 k
  obtain ⟨ih0, ih1, ih2⟩ := dovecoteref10_Right.mono_l k
  unfold dovecoteref10_Right.f
  repeat' first
      | (with_reducible exact ih0 _ _)
      | (with_reducible exact ih1 _ _ _)
      | (with_reducible exact ih2 _ _ _)
      | (with_reducible exact LeO.refl _)
      | (with_reducible exact LeO.none _)
      | (with_reducible refine LeO.ite ?_ ?_)
      | (with_reducible refine LeO.bind ?_ (fun _ => ?_))
      | exact ih0 _ _
      | exact ih1 _ _ _
      | exact ih2 _ _ _
      | exact LeO.none _
      | refine LeO.ite ?_ ?_
      | refine LeO.bind ?_ (fun _ => ?_)
set_option maxHeartbeats 8000000 in
set_option maxRecDepth 100000 in
theorem dovecoteref10_Right.calls (k : Nat) (A0 : Option Addr) (c0 : Nat) (l0 : List (S54)) (r : Bool) (w : World) (hr0 : Kd.C k54 w A0 l0.length l0) (hc0 : l0.length ≤ c0) (h : dovecoteref10_Right.f k l0 = some r) :
    Calls Try.prog 48 #[.slice A0 l0.length c0] w fun e w' => e = .returned (.bool r) ∧ Drawn0 w w' := by
  have HR0 := Aside0.mk hr0
  have HC0 := Aside0.mk hc0
  clear hr0 hc0
  have H : (dovecoteref10_Right.l0 k l0 0) = some r := h
  clear h
  have H' := Aside0.mk H
  clear H
  go_enter Try.func48, Try.ntmps48
  go_wp2
  repeat (go_quiet (fail); try go_wp2)
  go_loopg [3] k (fun kq v3 w' => ∃ (x3_1 : Int), v3 = .int .i64 x3_1 ∧ Aside0 (dovecoteref10_Right.l0 kq l0 x3_1 = some r) ∧ Aside0 (kq ≤ k) ∧ Drawn0 w w')
  case atStart => exact ⟨(0), (by first | rfl | (simp; done) | (simp [*]; done)), H', ⟨Nat.le_refl _⟩, by repeat (first | exact Drawn0.refl _ | apply Drawn0.step)⟩
  case round =>
    clear H'
    obtain ⟨x3_1, rfl, HA, HK1, ⟨m1, rfl⟩⟩ := hrel
    cases gk with
    | zero => exact absurd HA.out (by simp [dovecoteref10_Right.l0])
    | succ k1 =>
      have H := HA.out
      clear HA
      simp only [dovecoteref10_Right.l0] at H
      by_cases c2 : x3_1 < (l0.length : Int)
      · rw [if_pos c2] at H
        have c2b0 : decide (x3_1 < (l0.length : Int)) = true := decide_eq_true c2
        clear c2
        have HC3 := Aside0.mk H
        clear H
        go_upto_region 4 with (fail)
        repeat (go_quiet (fail); go_upto_region 4 with (fail))
        go_cut [41] (fun v41 wc => ∃ (kq : Nat) (x41_2 : Bool), v41 = .bool x41_2 ∧ Aside0 (dovecoteref10_Right.j1 kq l0 x3_1 x41_2 = some r) ∧ Aside0 (kq ≤ k1) ∧ Drawn0 w wc)
        case first =>
          have H := HC3.out
          clear HC3
          by_cases c4 : 0 ≤ x3_1
          · rw [if_pos c4] at H
            have c4b0 : decide (0 ≤ x3_1) = true := decide_eq_true c4
            clear c4
            (first | rw [c4b0] | (simp only [i64_w, i32_w]; rw [c4b0]) | skip)
            replace H := Option.bind_eq_some_iff.mp H
            obtain ⟨t106, A50, H⟩ := H
            replace H : (if t106 = true then (if (((rd_T54 l0 x3_1).f1).size : Int) > 256 then (dovecoteref10_Right.j1 k1 l0 x3_1 true) else (if (rd_T54 l0 x3_1).f2 = true then (dovecoteref10_Right.j1 k1 l0 x3_1 (((rd_T54 l0 x3_1).f1).toList != ([] : List UInt8))) else (dovecoteref10_Right.j1 k1 l0 x3_1 false))) else (dovecoteref10_Right.j1 k1 l0 x3_1 true)) = some r := H
            have A5 := Aside0.mk A50
            clear A50
            by_cases c6 : t106 = true
            · subst c6
              have H1 : (if (((rd_T54 l0 x3_1).f1).size : Int) > 256 then (dovecoteref10_Right.j1 k1 l0 x3_1 true) else (if (rd_T54 l0 x3_1).f2 = true then (dovecoteref10_Right.j1 k1 l0 x3_1 (((rd_T54 l0 x3_1).f1).toList != ([] : List UInt8))) else (dovecoteref10_Right.j1 k1 l0 x3_1 false))) = some r := by rw [if_pos rfl] at H; exact H
              clear H
              have H := H1
              clear H1
              by_cases c7 : (((rd_T54 l0 x3_1).f1).size : Int) > 256
              · rw [if_pos c7] at H
                have c7b0 : decide (256 < (((rd_T54 l0 x3_1).f1).size : Int)) = true := decide_eq_true c7
                have c7b1 : decide (256 < ((rd_T54 l0 x3_1).f1).size) = true := decide_eq_true (by omega)
                clear c7
                have H' := Aside0.mk H
                clear H
                have p105 : 0 ≤ (x3_1 : Int) := of_decide_eq_true (by first | (with_reducible assumption) | assumption)
                have q105 : x3_1 < (l0.length : Int) := of_decide_eq_true (by first | (with_reducible assumption) | assumption)
                obtain ⟨ad105, e105, hx105_0, hx105_1, hx105_2⟩ := at_T54 HR0.out x3_1 p105 q105
                cases e105
                replace p105 := eq_true p105
                replace q105 := eq_true q105
                go_wp2_with (first | (go_at_call 47; (with_reducible refine (dovecoteref09_Key.calls ((rd_T54 l0 x3_1).f0) true _ A5.out).mono ?_); rintro e w' ⟨rfl, ⟨nd, rfl⟩⟩; (try first | exact ⟨rfl, _, World.drewN_drewN _ _ _⟩ | exact ⟨rfl, _, Eq.trans (World.drewN_drewN _ _ _) (congrArg (World.drewN _) (Nat.add_assoc _ _ _))⟩); have p107 : 0 ≤ (x3_1 : Int) := of_decide_eq_true (by first | (with_reducible assumption) | assumption); have q107 : x3_1 < (l0.length : Int) := of_decide_eq_true (by first | (with_reducible assumption) | assumption); obtain ⟨ad107, e107, hx107_0, hx107_1, hx107_2⟩ := at_T54 HR0.out x3_1 p107 q107; obtain rfl : ad105 = ad107 := (by injection e107); replace p107 := eq_true p107; replace q107 := eq_true q107))
                repeat (go_quiet (first | (go_at_call 47; (with_reducible refine (dovecoteref09_Key.calls ((rd_T54 l0 x3_1).f0) true _ A5.out).mono ?_); rintro e w' ⟨rfl, ⟨nd, rfl⟩⟩; (try first | exact ⟨rfl, _, World.drewN_drewN _ _ _⟩ | exact ⟨rfl, _, Eq.trans (World.drewN_drewN _ _ _) (congrArg (World.drewN _) (Nat.add_assoc _ _ _))⟩); have p107 : 0 ≤ (x3_1 : Int) := of_decide_eq_true (by first | (with_reducible assumption) | assumption); have q107 : x3_1 < (l0.length : Int) := of_decide_eq_true (by first | (with_reducible assumption) | assumption); obtain ⟨ad107, e107, hx107_0, hx107_1, hx107_2⟩ := at_T54 HR0.out x3_1 p107 q107; obtain rfl : ad105 = ad107 := (by injection e107); replace p107 := eq_true p107; replace q107 := eq_true q107)); try go_wp2_with (first | (go_at_call 47; (with_reducible refine (dovecoteref09_Key.calls ((rd_T54 l0 x3_1).f0) true _ A5.out).mono ?_); rintro e w' ⟨rfl, ⟨nd, rfl⟩⟩; (try first | exact ⟨rfl, _, World.drewN_drewN _ _ _⟩ | exact ⟨rfl, _, Eq.trans (World.drewN_drewN _ _ _) (congrArg (World.drewN _) (Nat.add_assoc _ _ _))⟩); have p107 : 0 ≤ (x3_1 : Int) := of_decide_eq_true (by first | (with_reducible assumption) | assumption); have q107 : x3_1 < (l0.length : Int) := of_decide_eq_true (by first | (with_reducible assumption) | assumption); obtain ⟨ad107, e107, hx107_0, hx107_1, hx107_2⟩ := at_T54 HR0.out x3_1 p107 q107; obtain rfl : ad105 = ad107 := (by injection e107); replace p107 := eq_true p107; replace q107 := eq_true q107)))
                go_meet
                case rel => exact ⟨_, (true), (by first | rfl | (simp; done) | (simp [*]; done)), H', ⟨by have := HK1.out; first | omega | exact Nat.le_refl _⟩, by repeat (first | exact Drawn0.refl _ | apply Drawn0.step)⟩
              · rw [if_neg c7] at H
                have c7b0 : decide (256 < (((rd_T54 l0 x3_1).f1).size : Int)) = false := decide_eq_false c7
                have c7b1 : decide (256 < ((rd_T54 l0 x3_1).f1).size) = false := decide_eq_false (by omega)
                clear c7
                obtain ⟨bq8, hbq8⟩ : ∃ b_ : Bool, b_ = ((rd_T54 l0 x3_1).f2) := ⟨_, rfl⟩
                replace H : (if bq8 = true then (dovecoteref10_Right.j1 k1 l0 x3_1 (((rd_T54 l0 x3_1).f1).toList != ([] : List UInt8))) else (dovecoteref10_Right.j1 k1 l0 x3_1 false)) = some r := by rw [← hbq8] at H; exact H
                have Nbq8 := Aside0.mk hbq8
                clear hbq8
                by_cases c9 : bq8 = true
                · subst c9
                  have H1 : (dovecoteref10_Right.j1 k1 l0 x3_1 (((rd_T54 l0 x3_1).f1).toList != ([] : List UInt8))) = some r := by rw [if_pos rfl] at H; exact H
                  clear H
                  have H := H1
                  clear H1
                  have H' := Aside0.mk H
                  clear H
                  have p105 : 0 ≤ (x3_1 : Int) := of_decide_eq_true (by first | (with_reducible assumption) | assumption)
                  have q105 : x3_1 < (l0.length : Int) := of_decide_eq_true (by first | (with_reducible assumption) | assumption)
                  obtain ⟨ad105, e105, hx105_0, hx105_1, hx105_2⟩ := at_T54 HR0.out x3_1 p105 q105
                  (try rw [← Nbq8.out] at hx105_2)
                  cases e105
                  replace p105 := eq_true p105
                  replace q105 := eq_true q105
                  go_wp2_with (first | (go_at_call 47; (with_reducible refine (dovecoteref09_Key.calls ((rd_T54 l0 x3_1).f0) true _ A5.out).mono ?_); rintro e w' ⟨rfl, ⟨nd, rfl⟩⟩; (try first | exact ⟨rfl, _, World.drewN_drewN _ _ _⟩ | exact ⟨rfl, _, Eq.trans (World.drewN_drewN _ _ _) (congrArg (World.drewN _) (Nat.add_assoc _ _ _))⟩); have p107 : 0 ≤ (x3_1 : Int) := of_decide_eq_true (by first | (with_reducible assumption) | assumption); have q107 : x3_1 < (l0.length : Int) := of_decide_eq_true (by first | (with_reducible assumption) | assumption); obtain ⟨ad107, e107, hx107_0, hx107_1, hx107_2⟩ := at_T54 HR0.out x3_1 p107 q107; (try rw [← Nbq8.out] at hx107_2); obtain rfl : ad105 = ad107 := (by injection e107); replace p107 := eq_true p107; replace q107 := eq_true q107; have p108 : 0 ≤ (x3_1 : Int) := of_decide_eq_true (by first | (with_reducible assumption) | assumption); have q108 : x3_1 < (l0.length : Int) := of_decide_eq_true (by first | (with_reducible assumption) | assumption); obtain ⟨ad108, e108, hx108_0, hx108_1, hx108_2⟩ := at_T54 HR0.out x3_1 p108 q108; (try rw [← Nbq8.out] at hx108_2); obtain rfl : ad105 = ad108 := (by injection e108); replace p108 := eq_true p108; replace q108 := eq_true q108; have p109 : 0 ≤ (x3_1 : Int) := of_decide_eq_true (by first | (with_reducible assumption) | assumption); have q109 : x3_1 < (l0.length : Int) := of_decide_eq_true (by first | (with_reducible assumption) | assumption); obtain ⟨ad109, e109, hx109_0, hx109_1, hx109_2⟩ := at_T54 HR0.out x3_1 p109 q109; (try rw [← Nbq8.out] at hx109_2); obtain rfl : ad105 = ad109 := (by injection e109); replace p109 := eq_true p109; replace q109 := eq_true q109))
                  repeat (go_quiet (first | (go_at_call 47; (with_reducible refine (dovecoteref09_Key.calls ((rd_T54 l0 x3_1).f0) true _ A5.out).mono ?_); rintro e w' ⟨rfl, ⟨nd, rfl⟩⟩; (try first | exact ⟨rfl, _, World.drewN_drewN _ _ _⟩ | exact ⟨rfl, _, Eq.trans (World.drewN_drewN _ _ _) (congrArg (World.drewN _) (Nat.add_assoc _ _ _))⟩); have p107 : 0 ≤ (x3_1 : Int) := of_decide_eq_true (by first | (with_reducible assumption) | assumption); have q107 : x3_1 < (l0.length : Int) := of_decide_eq_true (by first | (with_reducible assumption) | assumption); obtain ⟨ad107, e107, hx107_0, hx107_1, hx107_2⟩ := at_T54 HR0.out x3_1 p107 q107; (try rw [← Nbq8.out] at hx107_2); obtain rfl : ad105 = ad107 := (by injection e107); replace p107 := eq_true p107; replace q107 := eq_true q107; have p108 : 0 ≤ (x3_1 : Int) := of_decide_eq_true (by first | (with_reducible assumption) | assumption); have q108 : x3_1 < (l0.length : Int) := of_decide_eq_true (by first | (with_reducible assumption) | assumption); obtain ⟨ad108, e108, hx108_0, hx108_1, hx108_2⟩ := at_T54 HR0.out x3_1 p108 q108; (try rw [← Nbq8.out] at hx108_2); obtain rfl : ad105 = ad108 := (by injection e108); replace p108 := eq_true p108; replace q108 := eq_true q108; have p109 : 0 ≤ (x3_1 : Int) := of_decide_eq_true (by first | (with_reducible assumption) | assumption); have q109 : x3_1 < (l0.length : Int) := of_decide_eq_true (by first | (with_reducible assumption) | assumption); obtain ⟨ad109, e109, hx109_0, hx109_1, hx109_2⟩ := at_T54 HR0.out x3_1 p109 q109; (try rw [← Nbq8.out] at hx109_2); obtain rfl : ad105 = ad109 := (by injection e109); replace p109 := eq_true p109; replace q109 := eq_true q109)); try go_wp2_with (first | (go_at_call 47; (with_reducible refine (dovecoteref09_Key.calls ((rd_T54 l0 x3_1).f0) true _ A5.out).mono ?_); rintro e w' ⟨rfl, ⟨nd, rfl⟩⟩; (try first | exact ⟨rfl, _, World.drewN_drewN _ _ _⟩ | exact ⟨rfl, _, Eq.trans (World.drewN_drewN _ _ _) (congrArg (World.drewN _) (Nat.add_assoc _ _ _))⟩); have p107 : 0 ≤ (x3_1 : Int) := of_decide_eq_true (by first | (with_reducible assumption) | assumption); have q107 : x3_1 < (l0.length : Int) := of_decide_eq_true (by first | (with_reducible assumption) | assumption); obtain ⟨ad107, e107, hx107_0, hx107_1, hx107_2⟩ := at_T54 HR0.out x3_1 p107 q107; (try rw [← Nbq8.out] at hx107_2); obtain rfl : ad105 = ad107 := (by injection e107); replace p107 := eq_true p107; replace q107 := eq_true q107; have p108 : 0 ≤ (x3_1 : Int) := of_decide_eq_true (by first | (with_reducible assumption) | assumption); have q108 : x3_1 < (l0.length : Int) := of_decide_eq_true (by first | (with_reducible assumption) | assumption); obtain ⟨ad108, e108, hx108_0, hx108_1, hx108_2⟩ := at_T54 HR0.out x3_1 p108 q108; (try rw [← Nbq8.out] at hx108_2); obtain rfl : ad105 = ad108 := (by injection e108); replace p108 := eq_true p108; replace q108 := eq_true q108; have p109 : 0 ≤ (x3_1 : Int) := of_decide_eq_true (by first | (with_reducible assumption) | assumption); have q109 : x3_1 < (l0.length : Int) := of_decide_eq_true (by first | (with_reducible assumption) | assumption); obtain ⟨ad109, e109, hx109_0, hx109_1, hx109_2⟩ := at_T54 HR0.out x3_1 p109 q109; (try rw [← Nbq8.out] at hx109_2); obtain rfl : ad105 = ad109 := (by injection e109); replace p109 := eq_true p109; replace q109 := eq_true q109)))
                  go_meet
                  case rel => exact ⟨_, ((((rd_T54 l0 x3_1).f1).toList != ([] : List UInt8))), (by generalize ((rd_T54 l0 x3_1).f1).toList = q; cases q <;> rfl), H', ⟨by have := HK1.out; first | omega | exact Nat.le_refl _⟩, by repeat (first | exact Drawn0.refl _ | apply Drawn0.step)⟩
                · replace c9 := Bool.eq_false_iff.mpr c9
                  subst c9
                  have H1 : (dovecoteref10_Right.j1 k1 l0 x3_1 false) = some r := by rw [if_neg (show ¬ (false = true) by decide)] at H; exact H
                  clear H
                  have H := H1
                  clear H1
                  have H' := Aside0.mk H
                  clear H
                  have p105 : 0 ≤ (x3_1 : Int) := of_decide_eq_true (by first | (with_reducible assumption) | assumption)
                  have q105 : x3_1 < (l0.length : Int) := of_decide_eq_true (by first | (with_reducible assumption) | assumption)
                  obtain ⟨ad105, e105, hx105_0, hx105_1, hx105_2⟩ := at_T54 HR0.out x3_1 p105 q105
                  (try rw [← Nbq8.out] at hx105_2)
                  cases e105
                  replace p105 := eq_true p105
                  replace q105 := eq_true q105
                  go_wp2_with (first | (go_at_call 47; (with_reducible refine (dovecoteref09_Key.calls ((rd_T54 l0 x3_1).f0) true _ A5.out).mono ?_); rintro e w' ⟨rfl, ⟨nd, rfl⟩⟩; (try first | exact ⟨rfl, _, World.drewN_drewN _ _ _⟩ | exact ⟨rfl, _, Eq.trans (World.drewN_drewN _ _ _) (congrArg (World.drewN _) (Nat.add_assoc _ _ _))⟩); have p107 : 0 ≤ (x3_1 : Int) := of_decide_eq_true (by first | (with_reducible assumption) | assumption); have q107 : x3_1 < (l0.length : Int) := of_decide_eq_true (by first | (with_reducible assumption) | assumption); obtain ⟨ad107, e107, hx107_0, hx107_1, hx107_2⟩ := at_T54 HR0.out x3_1 p107 q107; (try rw [← Nbq8.out] at hx107_2); obtain rfl : ad105 = ad107 := (by injection e107); replace p107 := eq_true p107; replace q107 := eq_true q107; have p108 : 0 ≤ (x3_1 : Int) := of_decide_eq_true (by first | (with_reducible assumption) | assumption); have q108 : x3_1 < (l0.length : Int) := of_decide_eq_true (by first | (with_reducible assumption) | assumption); obtain ⟨ad108, e108, hx108_0, hx108_1, hx108_2⟩ := at_T54 HR0.out x3_1 p108 q108; (try rw [← Nbq8.out] at hx108_2); obtain rfl : ad105 = ad108 := (by injection e108); replace p108 := eq_true p108; replace q108 := eq_true q108))
                  repeat (go_quiet (first | (go_at_call 47; (with_reducible refine (dovecoteref09_Key.calls ((rd_T54 l0 x3_1).f0) true _ A5.out).mono ?_); rintro e w' ⟨rfl, ⟨nd, rfl⟩⟩; (try first | exact ⟨rfl, _, World.drewN_drewN _ _ _⟩ | exact ⟨rfl, _, Eq.trans (World.drewN_drewN _ _ _) (congrArg (World.drewN _) (Nat.add_assoc _ _ _))⟩); have p107 : 0 ≤ (x3_1 : Int) := of_decide_eq_true (by first | (with_reducible assumption) | assumption); have q107 : x3_1 < (l0.length : Int) := of_decide_eq_true (by first | (with_reducible assumption) | assumption); obtain ⟨ad107, e107, hx107_0, hx107_1, hx107_2⟩ := at_T54 HR0.out x3_1 p107 q107; (try rw [← Nbq8.out] at hx107_2); obtain rfl : ad105 = ad107 := (by injection e107); replace p107 := eq_true p107; replace q107 := eq_true q107; have p108 : 0 ≤ (x3_1 : Int) := of_decide_eq_true (by first | (with_reducible assumption) | assumption); have q108 : x3_1 < (l0.length : Int) := of_decide_eq_true (by first | (with_reducible assumption) | assumption); obtain ⟨ad108, e108, hx108_0, hx108_1, hx108_2⟩ := at_T54 HR0.out x3_1 p108 q108; (try rw [← Nbq8.out] at hx108_2); obtain rfl : ad105 = ad108 := (by injection e108); replace p108 := eq_true p108; replace q108 := eq_true q108)); try go_wp2_with (first | (go_at_call 47; (with_reducible refine (dovecoteref09_Key.calls ((rd_T54 l0 x3_1).f0) true _ A5.out).mono ?_); rintro e w' ⟨rfl, ⟨nd, rfl⟩⟩; (try first | exact ⟨rfl, _, World.drewN_drewN _ _ _⟩ | exact ⟨rfl, _, Eq.trans (World.drewN_drewN _ _ _) (congrArg (World.drewN _) (Nat.add_assoc _ _ _))⟩); have p107 : 0 ≤ (x3_1 : Int) := of_decide_eq_true (by first | (with_reducible assumption) | assumption); have q107 : x3_1 < (l0.length : Int) := of_decide_eq_true (by first | (with_reducible assumption) | assumption); obtain ⟨ad107, e107, hx107_0, hx107_1, hx107_2⟩ := at_T54 HR0.out x3_1 p107 q107; (try rw [← Nbq8.out] at hx107_2); obtain rfl : ad105 = ad107 := (by injection e107); replace p107 := eq_true p107; replace q107 := eq_true q107; have p108 : 0 ≤ (x3_1 : Int) := of_decide_eq_true (by first | (with_reducible assumption) | assumption); have q108 : x3_1 < (l0.length : Int) := of_decide_eq_true (by first | (with_reducible assumption) | assumption); obtain ⟨ad108, e108, hx108_0, hx108_1, hx108_2⟩ := at_T54 HR0.out x3_1 p108 q108; (try rw [← Nbq8.out] at hx108_2); obtain rfl : ad105 = ad108 := (by injection e108); replace p108 := eq_true p108; replace q108 := eq_true q108)))
                  go_meet
                  case rel => exact ⟨_, (false), (by first | rfl | (simp; done) | (simp [*]; done)), H', ⟨by have := HK1.out; first | omega | exact Nat.le_refl _⟩, by repeat (first | exact Drawn0.refl _ | apply Drawn0.step)⟩
            · replace c6 := Bool.eq_false_iff.mpr c6
              subst c6
              have H1 : (dovecoteref10_Right.j1 k1 l0 x3_1 true) = some r := by rw [if_neg (show ¬ (false = true) by decide)] at H; exact H
              clear H
              have H := H1
              clear H1
              have H' := Aside0.mk H
              clear H
              have p105 : 0 ≤ (x3_1 : Int) := of_decide_eq_true (by first | (with_reducible assumption) | assumption)
              have q105 : x3_1 < (l0.length : Int) := of_decide_eq_true (by first | (with_reducible assumption) | assumption)
              obtain ⟨ad105, e105, hx105_0, hx105_1, hx105_2⟩ := at_T54 HR0.out x3_1 p105 q105
              cases e105
              replace p105 := eq_true p105
              replace q105 := eq_true q105
              go_wp2_with (first | (go_at_call 47; (with_reducible refine (dovecoteref09_Key.calls ((rd_T54 l0 x3_1).f0) false _ A5.out).mono ?_); rintro e w' ⟨rfl, ⟨nd, rfl⟩⟩; (try first | exact ⟨rfl, _, World.drewN_drewN _ _ _⟩ | exact ⟨rfl, _, Eq.trans (World.drewN_drewN _ _ _) (congrArg (World.drewN _) (Nat.add_assoc _ _ _))⟩)))
              repeat (go_quiet (first | (go_at_call 47; (with_reducible refine (dovecoteref09_Key.calls ((rd_T54 l0 x3_1).f0) false _ A5.out).mono ?_); rintro e w' ⟨rfl, ⟨nd, rfl⟩⟩; (try first | exact ⟨rfl, _, World.drewN_drewN _ _ _⟩ | exact ⟨rfl, _, Eq.trans (World.drewN_drewN _ _ _) (congrArg (World.drewN _) (Nat.add_assoc _ _ _))⟩))); try go_wp2_with (first | (go_at_call 47; (with_reducible refine (dovecoteref09_Key.calls ((rd_T54 l0 x3_1).f0) false _ A5.out).mono ?_); rintro e w' ⟨rfl, ⟨nd, rfl⟩⟩; (try first | exact ⟨rfl, _, World.drewN_drewN _ _ _⟩ | exact ⟨rfl, _, Eq.trans (World.drewN_drewN _ _ _) (congrArg (World.drewN _) (Nat.add_assoc _ _ _))⟩))))
              go_meet
              case rel => exact ⟨_, (true), (by first | rfl | (simp; done) | (simp [*]; done)), H', ⟨by have := HK1.out; first | omega | exact Nat.le_refl _⟩, by repeat (first | exact Drawn0.refl _ | apply Drawn0.step)⟩
          · rw [if_neg c4] at H
            exact absurd H (by simp)
        case rest =>
          clear HC3
          try clear p1
          try clear q1
          try clear hx1
          try clear c2
          try clear c2b0
          try clear p2
          try clear c4
          try clear c4b0
          try clear c6
          try clear c7
          try clear c7b0
          try clear c7b1
          try clear q8
          try clear c9
          try clear hx105_0
          try clear hx105_1
          try clear hx105_2
          try clear hx107_0
          try clear hx107_1
          try clear hx107_2
          try clear hx108_0
          try clear hx108_1
          try clear hx108_2
          try clear hx109_0
          try clear hx109_1
          try clear hx109_2
          try clear p105
          try clear p107
          try clear p108
          try clear p109
          try clear q105
          try clear q107
          try clear q108
          try clear q109
          obtain ⟨kq, x41_2, rfl, HA, HJ2, ⟨mc2, rfl⟩⟩ := hcut
          cases kq with
          | zero => exact absurd HA.out (by simp [dovecoteref10_Right.j1])
          | succ kj2 =>
            have H := HA.out
            clear HA
            simp only [dovecoteref10_Right.j1] at H
            by_cases c10 : x41_2 = true
            · subst c10
              have H1 : (some false) = some r := by rw [if_pos rfl] at H; exact H
              clear H
              have H := H1
              clear H1
              obtain rfl := Option.some.inj H
              go_wp2
              repeat (go_quiet (fail); try go_wp2)
              go_ret
              exact ⟨by first | rfl | (simp; done) | (simp [*]; done), by repeat (first | exact Drawn0.refl _ | apply Drawn0.step)⟩
            · replace c10 := Bool.eq_false_iff.mpr c10
              subst c10
              have H1 : (dovecoteref10_Right.l1 kj2 l0 x3_1 0) = some r := by rw [if_neg (show ¬ (false = true) by decide)] at H; exact H
              clear H
              have H := H1
              clear H1
              have H' := Aside0.mk H
              clear H
              go_wp2
              repeat (go_quiet (fail); try go_wp2)
              go_loopg [4] kj2 (fun kq v4 w' => ∃ (x4_3 : Int), v4 = .int .i64 x4_3 ∧ Aside0 (dovecoteref10_Right.l1 kq l0 x3_1 x4_3 = some r) ∧ Aside0 (kq ≤ kj2) ∧ Drawn0 w w')
              case atStart => exact ⟨(0), (by first | rfl | (simp; done) | (simp [*]; done)), H', ⟨Nat.le_refl _⟩, by repeat (first | exact Drawn0.refl _ | apply Drawn0.step)⟩
              case round =>
                clear H'
                try clear c1
                try clear p1
                try clear q1
                try clear hx1
                try clear c2
                try clear c2b0
                try clear p2
                try clear c4
                try clear c4b0
                try clear c6
                try clear c7
                try clear c7b0
                try clear c7b1
                try clear q8
                try clear c9
                try clear c10
                try clear p10
                try clear q10
                try clear hx10
                try clear hx105_0
                try clear hx105_1
                try clear hx105_2
                try clear hx107_0
                try clear hx107_1
                try clear hx107_2
                try clear hx108_0
                try clear hx108_1
                try clear hx108_2
                try clear hx109_0
                try clear hx109_1
                try clear hx109_2
                try clear p1
                try clear p105
                try clear p107
                try clear p108
                try clear p109
                try clear p2
                try clear q1
                try clear q105
                try clear q107
                try clear q108
                try clear q109
                try clear q8
                obtain ⟨x4_3, rfl, HA, HK3, ⟨m3, rfl⟩⟩ := hrel
                cases gk with
                | zero => exact absurd HA.out (by simp [dovecoteref10_Right.l1])
                | succ k3 =>
                  have H := HA.out
                  clear HA
                  simp only [dovecoteref10_Right.l1] at H
                  by_cases c11 : x4_3 < x3_1
                  · rw [if_pos c11] at H
                    have c11b0 : decide (x4_3 < x3_1) = true := decide_eq_true c11
                    clear c11
                    by_cases c12 : 0 ≤ x4_3
                    · rw [if_pos c12] at H
                      have c12b0 : decide (0 ≤ x4_3) = true := decide_eq_true c12
                      clear c12
                      by_cases c13 : x4_3 < (l0.length : Int)
                      · rw [if_pos c13] at H
                        have c13b0 : decide (x4_3 < (l0.length : Int)) = true := decide_eq_true c13
                        clear c13
                        by_cases c14 : 0 ≤ x3_1
                        · rw [if_pos c14] at H
                          have c14b0 : decide (0 ≤ x3_1) = true := decide_eq_true c14
                          clear c14
                          by_cases c15 : x3_1 < (l0.length : Int)
                          · rw [if_pos c15] at H
                            have c15b0 : decide (x3_1 < (l0.length : Int)) = true := decide_eq_true c15
                            clear c15
                            by_cases c16 : ((rd_T54 l0 x4_3).f0).toList = ((rd_T54 l0 x3_1).f0).toList
                            · rw [if_pos c16] at H
                              have c16b0 : (((rd_T54 l0 x4_3).f0).toList == ((rd_T54 l0 x3_1).f0).toList) = true := beq_iff_eq.mpr c16
                              have c16b1 : (((rd_T54 l0 x4_3).f0).toList != ((rd_T54 l0 x3_1).f0).toList) = false := bne_eq_false_iff_eq.mpr c16
                              clear c16
                              obtain rfl := Option.some.inj H
                              have p110 : 0 ≤ (x4_3 : Int) := of_decide_eq_true (by first | (with_reducible assumption) | assumption)
                              have q110 : x4_3 < (l0.length : Int) := of_decide_eq_true (by first | (with_reducible assumption) | assumption)
                              obtain ⟨ad110, e110, hx110_0, hx110_1, hx110_2⟩ := at_T54 HR0.out x4_3 p110 q110
                              cases e110
                              replace p110 := eq_true p110
                              replace q110 := eq_true q110
                              have p111 : 0 ≤ (x3_1 : Int) := of_decide_eq_true (by first | (with_reducible assumption) | assumption)
                              have q111 : x3_1 < (l0.length : Int) := of_decide_eq_true (by first | (with_reducible assumption) | assumption)
                              obtain ⟨ad111, e111, hx111_0, hx111_1, hx111_2⟩ := at_T54 HR0.out x3_1 p111 q111
                              obtain rfl : ad110 = ad111 := (by injection e111)
                              replace p111 := eq_true p111
                              replace q111 := eq_true q111
                              go_wp2
                              repeat (go_quiet (fail); try go_wp2)
                              go_ret
                              exact ⟨by first | rfl | (simp; done) | (simp [*]; done), by repeat (first | exact Drawn0.refl _ | apply Drawn0.step)⟩
                            · rw [if_neg c16] at H
                              have c16b0 : (((rd_T54 l0 x4_3).f0).toList == ((rd_T54 l0 x3_1).f0).toList) = false := beq_eq_false_iff_ne.mpr c16
                              have c16b1 : (((rd_T54 l0 x4_3).f0).toList != ((rd_T54 l0 x3_1).f0).toList) = true := bne_iff_ne.mpr c16
                              have H' := Aside0.mk H
                              clear H
                              have p110 : 0 ≤ (x4_3 : Int) := of_decide_eq_true (by first | (with_reducible assumption) | assumption)
                              have q110 : x4_3 < (l0.length : Int) := of_decide_eq_true (by first | (with_reducible assumption) | assumption)
                              obtain ⟨ad110, e110, hx110_0, hx110_1, hx110_2⟩ := at_T54 HR0.out x4_3 p110 q110
                              cases e110
                              replace p110 := eq_true p110
                              replace q110 := eq_true q110
                              have p111 : 0 ≤ (x3_1 : Int) := of_decide_eq_true (by first | (with_reducible assumption) | assumption)
                              have q111 : x3_1 < (l0.length : Int) := of_decide_eq_true (by first | (with_reducible assumption) | assumption)
                              obtain ⟨ad111, e111, hx111_0, hx111_1, hx111_2⟩ := at_T54 HR0.out x3_1 p111 q111
                              obtain rfl : ad110 = ad111 := (by injection e111)
                              replace p111 := eq_true p111
                              replace q111 := eq_true q111
                              go_wp2
                              repeat (go_quiet (fail); try go_wp2)
                              go_roundg k3
                              case measure => have := HK1.out; have := HJ2.out; have := HK3.out; omega
                              case rel => exact ⟨(wrap64 (x4_3 + 1)), (by first | rfl | (simp; done) | (simp [*]; done)), H', ⟨by have := HK1.out; have := HJ2.out; have := HK3.out; omega⟩, by repeat (first | exact Drawn0.refl _ | apply Drawn0.step)⟩
                          · rw [if_neg c15] at H
                            exact absurd H (by simp)
                        · rw [if_neg c14] at H
                          exact absurd H (by simp)
                      · rw [if_neg c13] at H
                        exact absurd H (by simp)
                    · rw [if_neg c12] at H
                      exact absurd H (by simp)
                  · rw [if_neg c11] at H
                    have c11b0 : decide (x4_3 < x3_1) = false := decide_eq_false c11
                    clear c11
                    have H' := Aside0.mk H
                    clear H
                    go_wp2
                    repeat (go_quiet (fail); try go_wp2)
                    go_roundg k3
                    case measure => have := HK1.out; have := HJ2.out; have := HK3.out; omega
                    case rel => exact ⟨(wrap64 (x3_1 + 1)), (by first | rfl | (simp; done) | (simp [*]; done)), H', ⟨by have := HK1.out; have := HJ2.out; have := HK3.out; omega⟩, by repeat (first | exact Drawn0.refl _ | apply Drawn0.step)⟩
      · rw [if_neg c2] at H
        have c2b0 : decide (x3_1 < (l0.length : Int)) = false := decide_eq_false c2
        clear c2
        by_cases c17 : (l0.length : Int) ≥ 1
        · rw [if_pos c17] at H
          have c17b0 : decide (1 ≤ (l0.length : Int)) = true := decide_eq_true c17
          have c17b1 : decide (1 ≤ l0.length) = true := decide_eq_true (by omega)
          clear c17
          obtain rfl := Option.some.inj H
          go_wp2
          repeat (go_quiet (fail); try go_wp2)
          go_ret
          exact ⟨by first | rfl | (simp; done) | (simp [*]; done), by repeat (first | exact Drawn0.refl _ | apply Drawn0.step)⟩
        · rw [if_neg c17] at H
          have c17b0 : decide (1 ≤ (l0.length : Int)) = false := decide_eq_false c17
          have c17b1 : decide (1 ≤ l0.length) = false := decide_eq_false (by omega)
          clear c17
          obtain rfl := Option.some.inj H
          go_wp2
          repeat (go_quiet (fail); try go_wp2)
          go_ret
          exact ⟨by first | rfl | (simp; done) | (simp [*]; done), by repeat (first | exact Drawn0.refl _ | apply Drawn0.step)⟩

/-! ### stamp_Right: function 27 -/
def stamp_Right.f (a0_0 : Int) (a0_1 : Int) : Option (Bool) := if a0_0 ≤ 281474976710656 then (some (decide (a0_1 ≤ 4095))) else (some false)
set_option maxHeartbeats 8000000 in
set_option maxRecDepth 100000 in
theorem stamp_Right.calls (a0_0 : Int) (a0_1 : Int) (r : Bool) (w : World) (h : stamp_Right.f a0_0 a0_1 = some r) :
    Calls Try.prog 27 #[.agg #[.int .u64 a0_0, .int .u32 a0_1]] w fun e w' => e = .returned (.bool r) ∧ Below w.heap.size w w' := by
  have hu27 := Try.underlying27
  have HB := Aside0.mk (Below.refl w.heap.size w)
  have H : (if a0_0 ≤ 281474976710656 then (some (decide (a0_1 ≤ 4095))) else (some false)) = some r := h
  clear h
  by_cases c2 : a0_0 ≤ 281474976710656
  · rw [if_pos c2] at H
    have c2b0 : decide (a0_0 ≤ 281474976710656) = true := decide_eq_true c2
    clear c2
    obtain rfl := Option.some.inj H
    go_enter Try.func27, Try.ntmps27
    go_wp2_with (first | ((with_reducible refine gate_dst (N := 1) rfl ?_); refine box_event ?hg (N := 1) ?hd (cs := #[.int .u64 a0_0, .int .u32 a0_1]) (t := 27) ?hr ?_; (case hd => rfl); (case hg => rfl); (case hr => first | (go_simp; done) | (go_simp; rfl)); intro gb112 hg w3 hbox hb; have n0_ := Aside0.mk (below_step (by repeat (first | (with_reducible first | exact HB.out | apply below_alloc | apply pw_below_drewN | apply below_drew1) | exact HB.out)) hb); have n1_ := Aside0.mk (hbox); have n2_ := Aside0.mk ((by rw [hg]; exact (below_size (by repeat (first | (with_reducible first | exact HB.out | apply below_alloc | apply pw_below_drewN | apply below_drew1) | exact HB.out))) : w.heap.size ≤ gb112)); have n3_ := Aside0.mk ((by rw [hg]; exact (below_size (by repeat (first | (with_reducible first | exact HB.out | apply below_alloc | apply pw_below_drewN | apply below_drew1) | exact HB.out))) : w.heap.size ≤ gb112)); clear HB; have HB := n0_; have BK112 := n1_; have GW112 := n2_; have GE112 := n3_; clear n0_ n1_ n2_ n3_; clear hb hbox hg; have hcz4_0 : w3.cell? ⟨gb112, 0, none⟩ = some (.int .u64 a0_0) := (blk_cell BK112.out 0).trans rfl; have hcz4_1 : w3.cell? ⟨gb112, 1, none⟩ = some (.int .u32 a0_1) := (blk_cell BK112.out 1).trans rfl; have hfz4_0 := blk_frozen BK112.out 0; have hfz4_1 := blk_frozen BK112.out 1))
    go_ret
    exact ⟨by first | rfl | (simp [errW_none, errW_some] <;> rfl) | (simp [*, errW_none, errW_some] <;> rfl), by repeat (first | (with_reducible first | exact HB.out | apply below_alloc | apply pw_below_drewN | apply below_drew1 | refine below_set ?_ GE112.out) | exact HB.out)⟩
  · rw [if_neg c2] at H
    have c2b0 : decide (a0_0 ≤ 281474976710656) = false := decide_eq_false c2
    clear c2
    obtain rfl := Option.some.inj H
    go_enter Try.func27, Try.ntmps27
    go_wp2_with (first | ((with_reducible refine gate_dst (N := 1) rfl ?_); refine box_event ?hg (N := 1) ?hd (cs := #[.int .u64 a0_0, .int .u32 a0_1]) (t := 27) ?hr ?_; (case hd => rfl); (case hg => rfl); (case hr => first | (go_simp; done) | (go_simp; rfl)); intro gb112 hg w5 hbox hb; have n0_ := Aside0.mk (below_step (by repeat (first | (with_reducible first | exact HB.out | apply below_alloc | apply pw_below_drewN | apply below_drew1) | exact HB.out)) hb); have n1_ := Aside0.mk (hbox); have n2_ := Aside0.mk ((by rw [hg]; exact (below_size (by repeat (first | (with_reducible first | exact HB.out | apply below_alloc | apply pw_below_drewN | apply below_drew1) | exact HB.out))) : w.heap.size ≤ gb112)); have n3_ := Aside0.mk ((by rw [hg]; exact (below_size (by repeat (first | (with_reducible first | exact HB.out | apply below_alloc | apply pw_below_drewN | apply below_drew1) | exact HB.out))) : w.heap.size ≤ gb112)); clear HB; have HB := n0_; have BK112 := n1_; have GW112 := n2_; have GE112 := n3_; clear n0_ n1_ n2_ n3_; clear hb hbox hg; have hcz6_0 : w5.cell? ⟨gb112, 0, none⟩ = some (.int .u64 a0_0) := (blk_cell BK112.out 0).trans rfl; have hcz6_1 : w5.cell? ⟨gb112, 1, none⟩ = some (.int .u32 a0_1) := (blk_cell BK112.out 1).trans rfl; have hfz6_0 := blk_frozen BK112.out 0; have hfz6_1 := blk_frozen BK112.out 1))
    go_ret
    exact ⟨by first | rfl | (simp [errW_none, errW_some] <;> rfl) | (simp [*, errW_none, errW_some] <;> rfl), by repeat (first | (with_reducible first | exact HB.out | apply below_alloc | apply pw_below_drewN | apply below_drew1 | refine below_set ?_ GE112.out) | exact HB.out)⟩

/-! ### dovecoteref01_Right: function 46 -/
def dovecoteref01_Right.f (a0_0 : Int) (a0_1 : Int) : Option (Bool) := if a0_0 ≤ 281474976710656 then (some (decide (a0_1 ≤ 4095))) else (some false)
set_option maxHeartbeats 8000000 in
set_option maxRecDepth 100000 in
theorem dovecoteref01_Right.calls (a0_0 : Int) (a0_1 : Int) (r : Bool) (w : World) (h : dovecoteref01_Right.f a0_0 a0_1 = some r) :
    Calls Try.prog 46 #[.agg #[.int .u64 a0_0, .int .u32 a0_1]] w fun e w' => e = .returned (.bool r) ∧ Below w.heap.size w w' := by
  have hu27 := Try.underlying27
  have HB := Aside0.mk (Below.refl w.heap.size w)
  have H : (if a0_0 ≤ 281474976710656 then (some (decide (a0_1 ≤ 4095))) else (some false)) = some r := h
  clear h
  by_cases c2 : a0_0 ≤ 281474976710656
  · rw [if_pos c2] at H
    have c2b0 : decide (a0_0 ≤ 281474976710656) = true := decide_eq_true c2
    clear c2
    obtain rfl := Option.some.inj H
    go_enter Try.func46, Try.ntmps46
    go_wp2_with (first | ((with_reducible refine gate_dst (N := 1) rfl ?_); refine box_event ?hg (N := 1) ?hd (cs := #[.int .u64 a0_0, .int .u32 a0_1]) (t := 27) ?hr ?_; (case hd => rfl); (case hg => rfl); (case hr => first | (go_simp; done) | (go_simp; rfl)); intro gb113 hg w3 hbox hb; have n0_ := Aside0.mk (below_step (by repeat (first | (with_reducible first | exact HB.out | apply below_alloc | apply pw_below_drewN | apply below_drew1) | exact HB.out)) hb); have n1_ := Aside0.mk (hbox); have n2_ := Aside0.mk ((by rw [hg]; exact (below_size (by repeat (first | (with_reducible first | exact HB.out | apply below_alloc | apply pw_below_drewN | apply below_drew1) | exact HB.out))) : w.heap.size ≤ gb113)); have n3_ := Aside0.mk ((by rw [hg]; exact (below_size (by repeat (first | (with_reducible first | exact HB.out | apply below_alloc | apply pw_below_drewN | apply below_drew1) | exact HB.out))) : w.heap.size ≤ gb113)); clear HB; have HB := n0_; have BK113 := n1_; have GW113 := n2_; have GE113 := n3_; clear n0_ n1_ n2_ n3_; clear hb hbox hg; have hcz4_0 : w3.cell? ⟨gb113, 0, none⟩ = some (.int .u64 a0_0) := (blk_cell BK113.out 0).trans rfl; have hcz4_1 : w3.cell? ⟨gb113, 1, none⟩ = some (.int .u32 a0_1) := (blk_cell BK113.out 1).trans rfl; have hfz4_0 := blk_frozen BK113.out 0; have hfz4_1 := blk_frozen BK113.out 1))
    go_ret
    exact ⟨by first | rfl | (simp [errW_none, errW_some] <;> rfl) | (simp [*, errW_none, errW_some] <;> rfl), by repeat (first | (with_reducible first | exact HB.out | apply below_alloc | apply pw_below_drewN | apply below_drew1 | refine below_set ?_ GE113.out) | exact HB.out)⟩
  · rw [if_neg c2] at H
    have c2b0 : decide (a0_0 ≤ 281474976710656) = false := decide_eq_false c2
    clear c2
    obtain rfl := Option.some.inj H
    go_enter Try.func46, Try.ntmps46
    go_wp2_with (first | ((with_reducible refine gate_dst (N := 1) rfl ?_); refine box_event ?hg (N := 1) ?hd (cs := #[.int .u64 a0_0, .int .u32 a0_1]) (t := 27) ?hr ?_; (case hd => rfl); (case hg => rfl); (case hr => first | (go_simp; done) | (go_simp; rfl)); intro gb113 hg w5 hbox hb; have n0_ := Aside0.mk (below_step (by repeat (first | (with_reducible first | exact HB.out | apply below_alloc | apply pw_below_drewN | apply below_drew1) | exact HB.out)) hb); have n1_ := Aside0.mk (hbox); have n2_ := Aside0.mk ((by rw [hg]; exact (below_size (by repeat (first | (with_reducible first | exact HB.out | apply below_alloc | apply pw_below_drewN | apply below_drew1) | exact HB.out))) : w.heap.size ≤ gb113)); have n3_ := Aside0.mk ((by rw [hg]; exact (below_size (by repeat (first | (with_reducible first | exact HB.out | apply below_alloc | apply pw_below_drewN | apply below_drew1) | exact HB.out))) : w.heap.size ≤ gb113)); clear HB; have HB := n0_; have BK113 := n1_; have GW113 := n2_; have GE113 := n3_; clear n0_ n1_ n2_ n3_; clear hb hbox hg; have hcz6_0 : w5.cell? ⟨gb113, 0, none⟩ = some (.int .u64 a0_0) := (blk_cell BK113.out 0).trans rfl; have hcz6_1 : w5.cell? ⟨gb113, 1, none⟩ = some (.int .u32 a0_1) := (blk_cell BK113.out 1).trans rfl; have hfz6_0 := blk_frozen BK113.out 0; have hfz6_1 := blk_frozen BK113.out 1))
    go_ret
    exact ⟨by first | rfl | (simp [errW_none, errW_some] <;> rfl) | (simp [*, errW_none, errW_some] <;> rfl), by repeat (first | (with_reducible first | exact HB.out | apply below_alloc | apply pw_below_drewN | apply below_drew1 | refine below_set ?_ GE113.out) | exact HB.out)⟩

/-! ### latch_key: function 49 -/
def latch_key.f (a0 : ByteArray) : Option (Bool) := if (a0.size : Int) ≥ 1 then (some (decide ((a0.size : Int) ≤ 32))) else (some false)
set_option maxHeartbeats 8000000 in
set_option maxRecDepth 100000 in
theorem latch_key.calls (a0 : ByteArray) (r : Bool) (w : World) (h : latch_key.f a0 = some r) :
    Calls Try.prog 49 #[.string a0] w fun e w' => e = .returned (.bool r) ∧ Drawn0 w w' := by
  have H : (if (a0.size : Int) ≥ 1 then (some (decide ((a0.size : Int) ≤ 32))) else (some false)) = some r := h
  clear h
  by_cases c2 : (a0.size : Int) ≥ 1
  · rw [if_pos c2] at H
    have c2b0 : decide (1 ≤ (a0.size : Int)) = true := decide_eq_true c2
    have c2b1 : decide (1 ≤ a0.size) = true := decide_eq_true (by omega)
    clear c2
    obtain rfl := Option.some.inj H
    go_enter Try.func49, Try.ntmps49
    go_wp2
    go_ret
    exact ⟨by first | rfl | (simp; done) | (simp [*]; done), by repeat (first | exact Drawn0.refl _ | apply Drawn0.step)⟩
  · rw [if_neg c2] at H
    have c2b0 : decide (1 ≤ (a0.size : Int)) = false := decide_eq_false c2
    have c2b1 : decide (1 ≤ a0.size) = false := decide_eq_false (by omega)
    clear c2
    obtain rfl := Option.some.inj H
    go_enter Try.func49, Try.ntmps49
    go_wp2
    go_ret
    exact ⟨by first | rfl | (simp; done) | (simp [*]; done), by repeat (first | exact Drawn0.refl _ | apply Drawn0.step)⟩

/-- THE ONE PURE STATEMENT of latch_key: yours. -/
def latch_key.Pure : Prop := ∀ (a0 : ByteArray), a0.size ≤ 140737488351232 → latch_key.f a0 = some true
theorem latch_key.walk (P : latch_key.Pure) (a0 : ByteArray) (w : World) (w0 : a0.size ≤ 140737488351232) :
    Calls Try.prog 49 #[.string a0] w fun e w' => e = .returned (.bool true) ∧ Below w.heap.size w w' := by
  have h := P a0 w0
  refine (latch_key.calls a0 true w h).mono ?_
  rintro e w' ⟨rfl, hd⟩
  exact ⟨rfl, hd.below⟩

/-! ### bits_Len64: function 44 -/


/-! ### pack_Reader_fail: function 50 -/


/-! ### pack_Reader_Number: function 30 -/
def pack_Reader_Number.f (s0_0 : ByteArray) (s0_1 : Int) (a1 : Int) : Option (Int × ByteArray × Int) := if 0 ≤ a1 then (if a1 ≤ 18446744073709551615 then some (rdNum s0_0 s0_1 a1) else none) else none
theorem pack_Reader_Number.calls (g : Nat) (s0_0 : ByteArray) (s0_1 : Int) (a1 : Int) (r1 : Int) (r2 : ByteArray) (r3 : Int) (w0 w : World) (hI : IsS81 w0 w g s0_0 s0_1) (hB : Below w0.heap.size w0 w) (h : pack_Reader_Number.f s0_0 s0_1 a1 = some (r1, r2, r3)) :
    Calls Try.prog 30 #[.pointer (some ⟨g, 0, none⟩), .int .u64 a1] w fun e w' => e = .returned (.int .u64 r1) ∧ IsS81 w0 w' g r2 r3 ∧ Below w0.heap.size w0 w' ∧ KeepBut w w' g none := by
  unfold pack_Reader_Number.f at h
  split at h
  · split at h
    · have h2 : rdNum s0_0 s0_1 a1 = (r1, r2, r3) := Option.some.inj h
      have := rnumber w0 w g s0_0 s0_1 a1 (by assumption) (by assumption) hI hB
      rw [h2] at this
      exact this
    · cases h
  · cases h


/-! ### pack_Reader_Err: function 51 -/


/-! ### pack_Reader_Text: function 32 -/


/-! ### pack_Reader_Flag: function 35 -/


end Go.Proofs.Ytblabgdkbcphkaa.PEs


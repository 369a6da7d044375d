/- An entry that came in, opened; when two are the same. Conditions: those that each theorem names. -/
import Derived.Test.YtblabgdkbcphkaaEj
import Derived.Test.YtblabgdkbcphkaaEk
import Derived.Test.YtblabgdkbcphkaaOp
import Derived.KernelRfl
import Derived.SizedLaws
import Derived.OpenShut
set_option linter.unusedVariables false
set_option linter.unusedSimpArgs false
set_option linter.constructorNameAsVariable false
namespace Go.Proofs.Ytblabgdkbcphkaa
open Go.RowKit Go.Deep Go.Proofs.YtblabgdkbcphkaaW.PrintWords Go.Proofs.Ytblabgdkbcphkaa.PEs Go.Proofs.Ytblabgdkbcphkaa.PRd
theorem b32 {n : Int} (h : (Lit.int .u32 n).wf = true) : U32 n := by have := Go.bounds_u32 h; unfold U32; omega
theorem b64 {n : Int} (h : (Lit.int .u64 n).wf = true) : U64 n := by have := Go.bounds_u64 h; unfold U64; omega
theorem b8 {n : Int} (h : (Lit.int .u8 n).wf = true) : 0 ≤ n ∧ n ≤ 255 := by have := Go.bounds_u8 h; omega
/-- Are two things the same? -/
noncomputable def eqD {α : Type} (a b : α) : Bool := @decide (a = b) (Classical.propDecidable _)
theorem eqD_self {α : Type} (a : α) : eqD a a = true := by unfold eqD; simp
theorem eqD_ne {α : Type} {a b : α} (h : a ≠ b) : eqD a b = false := by unfold eqD; simpa using h
theorem eqD_iff {α : Type} (x y : α) : eqD x y = true ↔ x = y := by unfold eqD; simp
theorem tl_inj {a b : ByteArray} : a.toList = b.toList ↔ a = b := by
  constructor
  · intro h
    rw [ByteArray.toList_eq, ByteArray.toList_eq] at h
    cases a; cases b
    simp at h
    rw [ByteArray.mk.injEq]
    exact h
  · intro h; rw [h]
theorem S_ext (x y : S54) (h0 : x.f0.toList = y.f0.toList) (h1 : x.f1.toList = y.f1.toList) (h2 : x.f2 = y.f2) : x = y := by
  obtain ⟨x0, x1, x2⟩ := x
  obtain ⟨y0, y1, y2⟩ := y
  dsimp only at *
  rw [tl_inj.1 h0, tl_inj.1 h1, h2]
theorem same_l0 (a b : En) (hl : a.ws.length = b.ws.length) (hz : a.ws.length ≤ 9223372036854775807) : ∀ (n i k : Nat), i + n = a.ws.length → n + 1 ≤ k → a.ws.take i = b.ws.take i →
    dovecoteref12_Same.l0 k (i : Int) a.k a.bc a.bn a.sp a.sl a.ap a.al a.mp a.ml a.pr a.parts a.done a.ws b.k b.bc b.bn b.sp b.sl b.ap b.al b.mp b.ml b.pr b.parts b.done b.ws = some (eqD a b) := by
  intro n
  induction n with
  | zero =>
    intro i k hi hk ht
    obtain ⟨k, rfl⟩ : ∃ m, k = m + 1 := ⟨k - 1, by omega⟩
    have hws : a.ws = b.ws := by
      have h1 : a.ws.take i = a.ws := List.take_of_length_le (by omega)
      have h2 : b.ws.take i = b.ws := List.take_of_length_le (by omega)
      rw [← h1, ht, h2]
    rw [dovecoteref12_Same.l0, if_neg (by omega)]
    obtain ⟨k0, bc, bn, sp, sl, ap, al, mp, ml, pr, parts, done, ws⟩ := a
    obtain ⟨k0', bc', bn', sp', sl', ap', al', mp', ml', pr', parts', done', ws'⟩ := b
    dsimp only at *
    subst hws
    have hne : ∀ (h : ¬ (k0 = k0' ∧ bc = bc' ∧ bn = bn' ∧ sp = sp' ∧ sl = sl' ∧ ap = ap' ∧ al = al' ∧ mp = mp' ∧ ml = ml' ∧ pr = pr' ∧ parts = parts' ∧ done = done')), eqD (⟨k0, bc, bn, sp, sl, ap, al, mp, ml, pr, parts, done, ws⟩ : En) ⟨k0', bc', bn', sp', sl', ap', al', mp', ml', pr', parts', done', ws⟩ = false := by
      intro h
      refine eqD_ne (fun e => h ?_)
      injection e with e1 e2 e3 e4 e5 e6 e7 e8 e9 e10 e11 e12
      exact ⟨e1, e2, e3, e4, e5, e6, e7, e8, e9, e10, e11, e12⟩
    by_cases h1 : k0 = k0'
    case neg => rw [if_neg h1, hne (fun h => h1 h.1)]
    rw [if_pos h1]
    by_cases h2 : bc = bc' ∧ bn = bn'
    case neg => rw [if_neg (by simpa using h2), hne (fun h => h2 ⟨h.2.1, h.2.2.1⟩)]
    rw [if_pos (by simpa using h2)]
    by_cases h3 : sp = sp' ∧ sl = sl'
    case neg => rw [if_neg (by simpa using h3), hne (fun h => h3 ⟨h.2.2.2.1, h.2.2.2.2.1⟩)]
    rw [if_pos (by simpa using h3)]
    by_cases h4 : ap = ap' ∧ al = al'
    case neg => rw [if_neg (by simpa using h4), hne (fun h => h4 ⟨h.2.2.2.2.2.1, h.2.2.2.2.2.2.1⟩)]
    rw [if_pos (by simpa using h4)]
    by_cases h5 : mp = mp' ∧ ml = ml'
    case neg => rw [if_neg (by simpa using h5), hne (fun h => h5 ⟨h.2.2.2.2.2.2.2.1, h.2.2.2.2.2.2.2.2.1⟩)]
    rw [if_pos (by simpa using h5)]
    by_cases h6 : pr = pr'
    case neg => rw [if_neg (fun h => h6 (tl_inj.1 h)), hne (fun h => h6 h.2.2.2.2.2.2.2.2.2.1)]
    rw [if_pos (tl_inj.2 h6)]
    by_cases h7 : parts = parts'
    case neg => rw [if_neg h7, hne (fun h => h7 h.2.2.2.2.2.2.2.2.2.2.1)]
    rw [if_pos h7]
    by_cases h8 : done = done'
    case neg => rw [show (done == done') = false from by simpa using h8, hne (fun h => h8 h.2.2.2.2.2.2.2.2.2.2.2)]
    obtain ⟨rfl, rfl⟩ := h2
    obtain ⟨rfl, rfl⟩ := h3
    obtain ⟨rfl, rfl⟩ := h4
    obtain ⟨rfl, rfl⟩ := h5
    subst h1 h6 h7 h8
    rw [eqD_self]
    simp
  | succ n ih =>
    intro i k hi hk ht
    obtain ⟨k, rfl⟩ : ∃ m, k = m + 1 := ⟨k - 1, by omega⟩
    have ha : i < a.ws.length := by omega
    have hb : i < b.ws.length := by omega
    have e : wrap64 ((i : Int) + 1) = ((i + 1 : Nat) : Int) := by unfold wrap64; omega
    rw [dovecoteref12_Same.l0, if_pos (by omega), if_pos (by omega), if_pos (by omega), rd_at a.ws i ha, rd_at b.ws i hb, e]
    by_cases hq : a.ws[i] = b.ws[i]
    · rw [if_neg (by rw [hq]; simp), ih (i + 1) k (by omega) (by omega) (by rw [List.take_succ_eq_append_getElem ha, List.take_succ_eq_append_getElem hb, ht, hq])]
    · rw [if_pos ?_, eqD_ne (fun h => hq (by subst h; rfl))]
      have : ¬ (a.ws[i].f0.toList = b.ws[i].f0.toList ∧ a.ws[i].f1.toList = b.ws[i].f1.toList ∧ a.ws[i].f2 = b.ws[i].f2) := fun h => hq (S_ext _ _ h.1 h.2.1 h.2.2)
      by_cases g0 : a.ws[i].f0.toList = b.ws[i].f0.toList
      · by_cases g1 : a.ws[i].f1.toList = b.ws[i].f1.toList
        · have g2 : ¬ a.ws[i].f2 = b.ws[i].f2 := fun g2 => this ⟨g0, g1, g2⟩
          rw [g0, g1]; simp [g2]
        · rw [g0]; simp [g1]
      · simp [g0]
theorem same_calls (a b : En) (A B : Option Addr) (c d : Nat) (w : World) (ha : a.ws.length ≤ 9223372036854775807) (h1 : EnIn w a A c) (h2 : EnIn w b B d) :
    Calls Try.prog 12 #[.agg #[.int .i64 a.k, .int .u32 a.bc, .int .u32 a.bn, .int .u64 a.sp, .int .u32 a.sl, .int .u64 a.ap, .int .u32 a.al, .int .u64 a.mp, .int .u32 a.ml, .string a.pr, .int .u8 a.parts, .bool a.done, .slice A a.ws.length c], .agg #[.int .i64 b.k, .int .u32 b.bc, .int .u32 b.bn, .int .u64 b.sp, .int .u32 b.sl, .int .u64 b.ap, .int .u32 b.al, .int .u64 b.mp, .int .u32 b.ml, .string b.pr, .int .u8 b.parts, .bool b.done, .slice B b.ws.length d]] w fun e w' => e = .returned (.bool (eqD a b)) ∧ Below w.heap.size w w' := by
  refine dovecoteref12_Same.calls (a.ws.length + 1) a.k a.bc a.bn a.sp a.sl a.ap a.al a.mp a.ml a.pr a.parts a.done A c a.ws b.k b.bc b.bn b.sp b.sl b.ap b.al b.mp b.ml b.pr b.parts b.done B d b.ws (eqD a b) w h1.h h1.z h2.h h2.z ?_
  unfold dovecoteref12_Same.f
  by_cases hl : a.ws.length = b.ws.length
  · rw [if_pos (by omega)]
    exact same_l0 a b hl ha a.ws.length 0 _ (by omega) (Nat.le_refl _) rfl
  · rw [if_neg (by omega), eqD_ne (fun h => hl (by rw [h]))]
end Go.Proofs.Ytblabgdkbcphkaa

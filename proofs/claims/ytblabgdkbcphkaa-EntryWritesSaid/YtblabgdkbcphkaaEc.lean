/- Entries as plain data; which lists of writes may be laid. Conditions: those that each theorem names. -/
import Derived.Test.YtblabgdkbcphkaaPEsx
import Derived.Test.YtblabgdkbcphkaaDq
import Derived.Maps.OwnOps
import Derived.Maps.OwnSet
import Derived.Lib.Hide
import Derived.StringKeys
set_option linter.unusedVariables false
set_option linter.unusedSimpArgs false
set_option linter.constructorNameAsVariable false
namespace Go.Proofs.Ytblabgdkbcphkaa
open Go.RowKit Go.Proofs.YtblabgdkbcphkaaW.PrintWords Go.Proofs.Ytblabgdkbcphkaa.PEs

/-- An entry. -/
structure En where
  k : Int
  bc : Int
  bn : Int
  sp : Int
  sl : Int
  ap : Int
  al : Int
  mp : Int
  ml : Int
  pr : ByteArray
  parts : Int
  done : Bool
  ws : List S54
/-- Within its types. -/
def U32 (x : Int) : Prop := 0 ≤ x ∧ x ≤ 4294967295
def U64 (x : Int) : Prop := 0 ≤ x ∧ x ≤ 18446744073709551615
def I64 (x : Int) : Prop := -9223372036854775808 ≤ x ∧ x ≤ 9223372036854775807
structure EOk (e : En) : Prop where
  k : I64 e.k
  bc : U32 e.bc
  bn : U32 e.bn
  sp : U64 e.sp
  sl : U32 e.sl
  ap : U64 e.ap
  al : U32 e.al
  mp : U64 e.mp
  ml : U32 e.ml
  parts : 0 ≤ e.parts ∧ e.parts ≤ 255
  ws : e.ws.length ≤ 9223372036854775807
/-- Where its list lies. -/
structure EnIn (w : World) (e : En) (A : Option Addr) (c : Nat) : Prop where
  h : Kd.C k54 w A e.ws.length e.ws
  z : e.ws.length ≤ c
theorem EnIn.below {w w1 : World} {e : En} {A : Option Addr} {c : Nat} (h : EnIn w e A c) (hb : Below w.heap.size w w1) : EnIn w1 e A c := ⟨Kd.C_below h.h hb, h.z⟩
/-- The kind's fields, a bit each. -/
def fieldsR (k : Int) : Int := if k = 1 ∨ k = 6 then 8 else if k = 2 then 55 else if k = 3 then 139 else if k = 4 then 9 else if k = 5 then 3 else if k = 7 then 1 else if k = 8 then 73 else if k = 9 then 395 else 0
theorem fields_calls (k : Int) (w : World) : Calls Try.prog 14 #[.int .i64 k] w fun e w' => e = .returned (.int .i64 (fieldsR k)) ∧ Drawn0 w w' := by
  refine entry_fields.calls 5 k _ w ?_
  unfold entry_fields.f fieldsR
  by_cases h1 : k = 1
  · subst h1; rfl
  · rw [if_neg h1]
    by_cases h6 : k = 6
    · subst h6; rfl
    · rw [if_neg (by omega), show (k == 6) = false from by simpa using h6, entry_fields.j0, if_neg (by decide)]
      repeat' split
      all_goals rfl
/-- A stamp within the limits. -/
def rts (p l : Int) : Bool := decide (p ≤ 281474976710656) && decide (l ≤ 4095)
theorem stamp_calls (p l : Int) (w : World) : Calls Try.prog 27 #[.agg #[.int .u64 p, .int .u32 l]] w fun e w' => e = .returned (.bool (rts p l)) ∧ Below w.heap.size w w' := by
  refine stamp_Right.calls p l _ w ?_
  unfold stamp_Right.f rts
  by_cases h : p ≤ 281474976710656
  · rw [if_pos h]; simp [h]
  · rw [if_neg h]; simp [h]
theorem rstamp_calls (p l : Int) (w : World) : Calls Try.prog 46 #[.agg #[.int .u64 p, .int .u32 l]] w fun e w' => e = .returned (.bool (rts p l)) ∧ Below w.heap.size w w' := by
  refine dovecoteref01_Right.calls p l _ w ?_
  unfold dovecoteref01_Right.f rts
  by_cases h : p ≤ 281474976710656
  · rw [if_pos h]; simp [h]
  · rw [if_neg h]; simp [h]
/-- A key. -/
def keyB (s : ByteArray) : Bool := decide (1 ≤ s.size) && decide (s.size ≤ 32)
theorem keyf (s : ByteArray) : (if (s.size : Int) ≥ 1 then some (decide ((s.size : Int) ≤ 32)) else some false) = some (keyB s) := by
  unfold keyB
  by_cases h : 1 ≤ s.size
  · rw [if_pos (by omega)]
    by_cases h2 : s.size ≤ 32
    · rw [decide_eq_true (show (s.size : Int) ≤ 32 by omega), decide_eq_true h, decide_eq_true h2]; rfl
    · rw [decide_eq_false (show ¬ (s.size : Int) ≤ 32 by omega), decide_eq_true h, decide_eq_false h2]; rfl
  · rw [if_neg (by omega), decide_eq_false h]; rfl
theorem rkey_calls (s : ByteArray) (w : World) : Calls Try.prog 47 #[.string s] w fun e w' => e = .returned (.bool (keyB s)) ∧ Drawn0 w w' := dovecoteref09_Key.calls s _ w (keyf s)
def e0 (s : ByteArray) : Bool := decide (s.toList = ([] : List UInt8))
def eS (a b : ByteArray) : Bool := decide (a.toList = b.toList)
/-- One write alone. -/
def okW (x : S54) : Bool := keyB x.f0 && decide (x.f1.size ≤ 256) && !(x.f2 && !e0 x.f1)
def seenB (acc : List S54) (s : ByteArray) : Bool := acc.any fun y => eS y.f0 s
def latchGo : List S54 → List S54 → Bool
  | _, [] => true
  | acc, x :: l => okW x && !seenB acc x.f0 && latchGo (acc ++ [x]) l
/-- May these be laid? -/
def latchR (ws : List S54) : Bool := decide (1 ≤ ws.length) && decide (ws.length ≤ 16) && latchGo [] ws
theorem go_step (ws : List S54) (i : Nat) (h : i < ws.length) (hg : latchGo [] ws = latchGo (ws.take i) (ws.drop i)) (h1 : okW ws[i] = true) (h2 : seenB (ws.take i) ws[i].f0 = false) : latchGo [] ws = latchGo (ws.take (i + 1)) (ws.drop (i + 1)) := by
  rw [hg, List.drop_eq_getElem_cons h, latchGo, h1, h2, List.take_succ_eq_append_getElem h]
  rfl
theorem go_bad (ws : List S54) (i : Nat) (h : i < ws.length) (hg : latchGo [] ws = latchGo (ws.take i) (ws.drop i)) (h1 : okW ws[i] = false ∨ seenB (ws.take i) ws[i].f0 = true) : latchGo [] ws = false := by
  rw [hg, List.drop_eq_getElem_cons h, latchGo]
  rcases h1 with h | h <;> rw [h] <;> simp
theorem go_end (ws : List S54) (hg : latchGo [] ws = latchGo (ws.take ws.length) (ws.drop ws.length)) : latchGo [] ws = true := by
  rw [hg, List.drop_length]
  rfl
/-! The map of the keys that were seen. -/
def MapK (D : DataW Unit) (acc : List S54) : Prop := Maps.IsMap D ∧ ∀ (s : ByteArray) (z : DataW Unit), D.atKey (.string s.data.toList) z = if seenB acc s = true then .lit (.bool true) else z
theorem MapK.nil : MapK (.map []) [] := ⟨Maps.isMap_empty, fun s z => by simp [seenB, DataW.atKey]⟩
theorem eS_iff (a b : ByteArray) : eS a b = true ↔ a.data.toList = b.data.toList := by
  unfold eS
  rw [decide_eq_true_eq, ByteArray.toList_eq, ByteArray.toList_eq]
theorem MapK.snoc {D : DataW Unit} {acc : List S54} (h : MapK D acc) (x : S54) : MapK (D.put (.string x.f0.data.toList) (.lit (.bool true))) (acc ++ [x]) := by
  refine ⟨h.1.put _ _, fun s z => ?_⟩
  have e : seenB (acc ++ [x]) s = (seenB acc s || eS x.f0 s) := by simp [seenB]
  rw [e]
  by_cases hs : x.f0.data.toList = s.data.toList
  · rw [← hs, Maps.atKey_put_same h.1 (by trivial)]
    rw [(eS_iff _ _).2 hs]
    simp
  · rw [Maps.atKey_put_other (fun q => hs (by injection q with q; exact q.symm)), h.2]
    have : eS x.f0 s = false := by
      rw [← Bool.not_eq_true]; exact fun q => hs ((eS_iff _ _).1 q)
    rw [this]
    simp
section
variable {P : Program} {k e t : TypeId} {w : World} {b n : Nat} {D : DataW Unit}
theorem plainElem_bool_inv (he : P.underlying e = some .bool) {v : Value} {z : DataW Unit × List MemPlace} (h : plainElem P e v = some z) : ∃ c, v = .bool c ∧ z = (.lit (.bool c), []) := by
  unfold plainElem at h
  rw [he] at h
  cases v <;> simp at h
  exact ⟨_, rfl, h.symm⟩
theorem lookup_bool (h : w.ownsMap P k (plainElem P e) b n D) (K : Maps.Keyed P k) (ht : P.underlying t = some (.map k e)) (he : P.underlying e = some .bool) (hz : (zeroValue e).run P w = .ok (.bool false) w)
    {key : Value} {kl : Lit} (hkey : keyOf P k key = some kl) : ∃ c, (Instr.lookup t (.map (some b)) key false).run P w = .ok (.bool c) w ∧ D.atKey kl (.lit (.bool false)) = .lit (.bool c) := by
  obtain ⟨v, ps, hrun, hv⟩ := h.lookup K ht hz (plainElem_bool he false) hkey
  obtain ⟨c, rfl, hc⟩ := plainElem_bool_inv he hv
  simp only [Prod.mk.injEq] at hc
  exact ⟨c, hrun, hc.1⟩
end
theorem lawK : Maps.Keyed Try.prog 9 := Maps.string_keyed Try.underlying9
theorem zeroB (w : World) : (zeroValue 4).run Try.prog w = .ok (.bool false) w := by kernel_rfl
/-- What the map answers, in a world in which it is what it is to be. -/
theorem seen_run {w : World} {b n : Nat} {D : DataW Unit} {acc : List S54} (h : w.ownsMap Try.prog 9 (plainElem Try.prog 4) b n D) (hD : MapK D acc) (s : ByteArray) (hs : s.size ≤ maxLen) :
    (Instr.lookup 79 (.map (some b)) (.string s) false).run Try.prog w = .ok (.bool (seenB acc s)) w := by
  obtain ⟨c, hrun, hc⟩ := lookup_bool h lawK (t := 79) Try.underlying79 Try.underlying4 (zeroB w) (Go.WideMaps.keyOf_string_mk Try.underlying9 hs)
  rw [hrun]
  rw [hD.2] at hc
  cases hq : seenB acc s with
  | true => rw [hq, if_pos rfl] at hc; injection hc with hc; injection hc with hc; rw [hc]
  | false => rw [hq, if_neg (by decide)] at hc; injection hc with hc; injection hc with hc; rw [hc]
end Go.Proofs.Ytblabgdkbcphkaa

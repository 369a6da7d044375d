/- A frame as a plain text, and how it is read: frame.Wrap in plain words. Conditions: those that each theorem names. -/
import Derived.Test.YtapgmedfedcliaaPFrx
import Derived.Test.YtapgmedfedcliaaRi3
set_option linter.unusedVariables false
set_option linter.unusedSimpArgs false
namespace Go.Proofs.Ytapgmedfedcliaa
open Go.RowKit Go.Proofs.YtapgmedfedcliaaW.PrintWords PRd PFr

theorem toList_nil (s : ByteArray) : (s.toList = ([] : List UInt8)) ↔ s.size = 0 := by
  have : s.toList.length = s.size := by rw [ByteArray.toList_eq, data_length]
  rw [← this, List.length_eq_zero_iff]
theorem toList_inj {s t : ByteArray} : s.toList = t.toList ↔ s = t := by
  constructor
  · intro h
    rw [ByteArray.toList_eq, ByteArray.toList_eq] at h
    have := Array.toList_inj.1 h
    cases s; cases t; simp_all
  · rintro rfl; rfl
def four (x : Nat) : ByteArray := strOfNums ([(x : Int) % 256, ((x : Int) / 256) % 256, ((x : Int) / 65536) % 256, ((x : Int) / 16777216) % 256] : List Int)
theorem four_size (x : Nat) : (four x).size = 4 := by unfold four; rw [size_nums]; rfl
/-- A payload's frame. -/
def frm (p : ByteArray) : ByteArray := strOfNums [215] ++ encT p ++ four (sumN (encT p))
def wrp (p : ByteArray) : ByteArray × Int := if 16384 < p.size then (⟨#[]⟩, 3) else (frm p, 0)
theorem encT_size (p : ByteArray) (h : p.size ≤ 140737488355000) : 1 + p.size ≤ (encT p).size ∧ (encT p).size ≤ 9 + p.size := by
  have := encB_size (n := (p.size : Int)) (by omega)
  unfold encT
  rw [ByteArray.size_append]; omega
theorem wrap_f (p : ByteArray) : frame_Wrap.f p = some (wrp p) := by
  unfold frame_Wrap.f wrp
  by_cases h : p.size > 16384
  · rw [if_pos (by omega), if_pos h]
  · have hs := encT_size p (by omega)
    rw [if_neg (by omega), if_neg (by omega)]
    have e1 : frame_body.f p = some (encT p) := if_pos (by omega)
    have e2 : frame_Sum.f (encT p) = some (sumN (encT p) : Int) := if_pos (by omega)
    rw [e1]
    simp only [Option.bind_some]
    have s1 : (strOfNums ([215] : List Int)).size = 1 := rfl
    have s2 : (four (sumN (encT p))).size = 4 := four_size _
    rw [if_pos (by omega), e2]
    simp only [Option.bind_some]
    have e3 : frame_four.f (sumN (encT p) : Int) = some (four (sumN (encT p))) := rfl
    rw [e3]
    simp only [Option.bind_some]
    rw [if_pos (by rw [ByteArray.size_append]; omega)]
    rfl
theorem wrap_calls (p : ByteArray) (w : World) : Calls Try.prog 10 #[.string p] w fun e w' => e = .returned (.tuple #[.string (wrp p).1, .int .i64 (wrp p).2]) ∧ Below w.heap.size w w' :=
  frame_Wrap.calls p _ _ w (wrap_f p)
/-- What Next reads behind the mark: the payload's size, what is left of the rest, the error. -/
def hd (s : ByteArray) : Int × ByteArray × Int := rdNum (s.extract 1 s.size) 0 16384
/-- Where the payload begins. -/
def atOf (s : ByteArray) : Nat := s.size - (hd s).2.1.size
/-- The first frame. -/
def nxt (s : ByteArray) : ByteArray × Int × Int :=
  if s.size = 0 then (⟨#[]⟩, 0, 4) else if bt s 0 ≠ 215 then (⟨#[]⟩, 0, 2) else if (hd s).2.2 ≠ 0 then (⟨#[]⟩, 0, (hd s).2.2)
  else if (hd s).2.1.size < (hd s).1.toNat + 4 then (⟨#[]⟩, 0, 4)
  else if four (sumN (s.extract 1 (atOf s + (hd s).1.toNat))) ≠ s.extract (atOf s + (hd s).1.toNat) (atOf s + (hd s).1.toNat + 4) then (⟨#[]⟩, 0, 5)
  else (s.extract (atOf s) (atOf s + (hd s).1.toNat), ((atOf s + (hd s).1.toNat + 4 : Nat) : Int), 0)
theorem w64 (x : Int) (h0 : 0 ≤ x) (h1 : x ≤ 9223372036854775807) : wrap64 x = x := by unfold wrap64; omega
end Go.Proofs.Ytapgmedfedcliaa

/- pack.Reader's Number: with an error nothing is read; both cases together. Conditions: those that the theorems name. -/
import Derived.Test.YtapgmedfedcliaaRn
set_option linter.unusedVariables false
set_option linter.unusedSimpArgs false
namespace Go.Proofs.Ytapgmedfedcliaa
open Go.RowKit Go.Proofs.YtapgmedfedcliaaW.PrintWords PRd
set_option maxRecDepth 100000 in
set_option maxHeartbeats 8000000 in
theorem rnum_err (w0 w : World) (g : Nat) (s : ByteArray) (er most : Int) (her : er ≠ 0) (hI : IsS65 w0 w g s er) (hB : Below w0.heap.size w0 w) :
    Calls Try.prog 24 #[.pointer (some ⟨g, 0, none⟩), .int .u64 most] w fun e w' => e = .returned (.int .u64 0) ∧ IsS65 w0 w' g s er ∧ Below w0.heap.size w0 w' ∧ KeepBut w w' g none := by
  have HI := Lib.hid hI
  have HB := Lib.hid hB
  have hb := hI.1
  have c0 := cellS65_0 hb
  have c1 := cellS65_1 hb
  have f0 := blk_frozen hb 0
  have f1 := blk_frozen hb 1
  have he1 : (er != 0) = true := by rw [bne_iff_ne]; exact her
  have he2 : (er == 0) = false := by rw [beq_eq_false_iff_ne]; exact her
  clear hI hB hb
  go_enter Try.func24, Try.ntmps24
  go_wp2
  refine wp_scope_many (fun _ _ _ _ => False) ?_ (fun _ _ _ _ h => h.elim)
  go_wp2
  simp only [jumps_ret]
  go_ret
  exact ⟨rfl, HI.out, HB.out, KeepBut.refl w g none⟩
/-- What Number answers, what is left, the error. -/
def rdNum (s : ByteArray) (er most : Int) : Int × ByteArray × Int := if er = 0 then numR s most else (0, s, er)
theorem rnumber (w0 w : World) (g : Nat) (s : ByteArray) (er most : Int) (hm0 : 0 ≤ most) (hm1 : most ≤ 18446744073709551615) (hI : IsS65 w0 w g s er) (hB : Below w0.heap.size w0 w) :
    Calls Try.prog 24 #[.pointer (some ⟨g, 0, none⟩), .int .u64 most] w fun e w' => e = .returned (.int .u64 (rdNum s er most).1) ∧ IsS65 w0 w' g (rdNum s er most).2.1 (rdNum s er most).2.2 ∧ Below w0.heap.size w0 w' ∧ KeepBut w w' g none := by
  unfold rdNum
  by_cases h : er = 0
  · subst h
    rw [if_pos rfl]
    exact rnum w0 w g s most hm0 hm1 hI hB
  · rw [if_neg h]
    exact rnum_err w0 w g s er most h hI hB
end Go.Proofs.Ytapgmedfedcliaa

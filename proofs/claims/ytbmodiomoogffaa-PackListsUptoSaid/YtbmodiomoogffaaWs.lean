/- pack.Writer's Flag and Stamp. Conditions: those that each theorem names. -/
import Derived.Test.YtbmodiomoogffaaWt
set_option linter.unusedVariables false
set_option linter.unusedSimpArgs false
namespace Go.Proofs.Ytbmodiomoogffaa
open Go.RowKit Go.Proofs.YtbmodiomoogffaaW.PrintWords

def flagN (b : Bool) : Int := if b then 1 else 0
def encF (b : Bool) : ByteArray := strOfNums [flagN b]
theorem encF_eq (b : Bool) : encB (flagN b) = encF b := by cases b <;> rfl
theorem encF_size (b : Bool) : (encF b).size = 1 := by unfold encF; rw [size_nums]; rfl

set_option maxHeartbeats 1000000 in
theorem wflag (w0 w : World) (g : Nat) (s : ByteArray) (b : Bool) (hI : IsS27 w0 w g s) (hB : Below w0.heap.size w0 w) (hl : s.size + 9 ≤ 140737488355328) :
    Calls Try.prog 25 #[.pointer (some ⟨g, 0, none⟩), .bool b] w fun e w' => e = .returned (.tuple #[]) ∧ IsS27 w0 w' g (s ++ encF b) ∧ Below w0.heap.size w0 w' ∧ KeepW w w' g := by
  cases b
  · have HN := Lib.hid (wnum w0 w g s 0 (by omega) (by omega) hI hB hl)
    rw [show encB 0 = encF false from rfl] at HN
    clear hI hB
    go_enter Try.func25, Try.ntmps25
    go_wp2_with fail
    refine HN.out.mono ?_
    rintro e w1 ⟨rfl, h1⟩
    have H1 := Lib.hid h1
    clear h1
    go_wp2
    go_end0
    exact ⟨rfl, H1.out⟩
  · have HN := Lib.hid (wnum w0 w g s 1 (by omega) (by omega) hI hB hl)
    rw [show encB 1 = encF true from rfl] at HN
    clear hI hB
    go_enter Try.func25, Try.ntmps25
    go_wp2_with fail
    refine HN.out.mono ?_
    rintro e w1 ⟨rfl, h1⟩
    have H1 := Lib.hid h1
    clear h1
    go_wp2
    go_end0
    exact ⟨rfl, H1.out⟩

set_option maxHeartbeats 1000000 in
theorem wstamp (w0 w : World) (g : Nat) (s : ByteArray) (p l : Int) (hp : 0 ≤ p ∧ p ≤ 18446744073709551615) (hll : 0 ≤ l ∧ l ≤ 4294967295) (hI : IsS27 w0 w g s) (hB : Below w0.heap.size w0 w) (hl : s.size + 18 ≤ 140737488355328) :
    Calls Try.prog 19 #[.pointer (some ⟨g, 0, none⟩), .agg #[.int .u64 p, .int .u32 l]] w fun e w' => e = .returned (.tuple #[]) ∧ IsS27 w0 w' g (s ++ encB p ++ encB l) ∧ Below w0.heap.size w0 w' ∧ KeepW w w' g := by
  obtain ⟨hp1, hp2⟩ := hp
  obtain ⟨hl1, hl2⟩ := hll
  have hgl := hI.lt
  have hI1 := hI.alloc (.cells #[.int .u64 p, .int .u32 l] 43)
  have hB1 := below_alloc' hB (.cells #[.int .u64 p, .int .u32 l] 43)
  have HI1 := Lib.hid hI1
  have hs := encB_size (n := p) (by omega)
  have HN := Lib.hid (wnum w0 _ g s p (by omega) (by omega) hI1 hB1 (by omega))
  have hb0 : (w.alloc (.cells #[.int .u64 p, .int .u32 l] 43)).heap[w.heap.size]? = some (.cells #[.int .u64 p, .int .u32 l] 43 (0, 0)) := heap_alloc_new w _
  have Hb0 := Lib.hid hb0
  have HK0 := Lib.hid ((KeepW.refl w g).alloc (.cells #[.int .u64 p, .int .u32 l] 43))
  have hne : w.heap.size ≠ g := by omega
  have Hne := Lib.hid hne
  obtain ⟨u, hu⟩ : ∃ u, u = s ++ encB p := ⟨_, rfl⟩
  have hus : u.size + 9 ≤ 140737488355328 := by rw [hu, ByteArray.size_append]; omega
  rw [← hu]
  rw [← hu] at HN
  clear hI hB hI1 hB1 hb0 hne hu hs
  go_enter Try.func19, Try.ntmps19
  go_wp2_with fail
  refine HN.out.mono ?_
  rintro e w1 ⟨rfl, hI2, hB2, hK2⟩
  have hbk := (KeepW.block hK2 HI1.out w.heap.size Hne.out Hb0.out (by decide)).trans Hb0.out
  have c1 : w1.cell? ⟨w.heap.size, 1, none⟩ = some (.int .u32 l) := by rw [cell_of_row w1 _ 1 _ _ _ hbk]; rfl
  have HN2 := Lib.hid (wnum w0 _ g u l (by omega) (by omega) hI2 hB2 hus)
  have HK := Lib.hid (HK0.out.trans hK2)
  clear hI2 hB2 hK2 hbk
  go_wp2_with fail
  refine HN2.out.mono ?_
  rintro e w2 ⟨rfl, hI3, hB3, hK3⟩
  have Hend := Lib.hid (show IsS27 w0 w2 g (u ++ encB l) ∧ Below w0.heap.size w0 w2 ∧ KeepW w w2 g from ⟨hI3, hB3, HK.out.trans hK3⟩)
  clear hI3 hB3 hK3
  go_wp2
  go_end0
  exact ⟨rfl, Hend.out⟩
end Go.Proofs.Ytbmodiomoogffaa

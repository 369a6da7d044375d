/- The walk of FrameReads: a text's sum and frames, or why there is none, are the document's. Condition: the given size bound. -/
import Derived.Test.YtapgmedfedcliaaPLrx
set_option linter.unusedVariables false
set_option linter.unusedSimpArgs false
namespace Go.Proofs.Ytapgmedfedcliaa
open Go.RowKit Go.Proofs.YtapgmedfedcliaaW.PrintWords PRd PLr

theorem same_l0' (l : List ByteArray) : ∀ (d i k : Nat), i + d = l.length → l.length ≤ 1000000 → d < k → dovecoteref03_Same.l0 k l l (i : Int) = some true := by
  intro d
  induction d with
  | zero =>
    intro i k hi hl hk
    obtain ⟨k, rfl⟩ : ∃ j, k = j + 1 := ⟨k - 1, by omega⟩
    unfold dovecoteref03_Same.l0
    rw [if_neg (by omega)]
  | succ d ih =>
    intro i k hi hl hk
    obtain ⟨k, rfl⟩ : ∃ j, k = j + 1 := ⟨k - 1, by omega⟩
    unfold dovecoteref03_Same.l0
    rw [if_pos (by omega), if_pos (by omega), if_pos (by omega), if_pos rfl, show wrap64 ((i : Int) + 1) = ((i + 1 : Nat) : Int) by unfold wrap64; omega]
    exact ih (i + 1) k (by omega) hl (by omega)
theorem same_f' (l : List ByteArray) (k : Nat) (hl : l.length ≤ 1000000) (hk : l.length < k) : dovecoteref03_Same.f k l l = some true := by
  unfold dovecoteref03_Same.f
  rw [if_pos rfl]
  exact same_l0' l l.length 0 k (by omega) hl hk
/-- The document's Scan goes as the program's. -/
theorem refscan_l0 (s : ByteArray) (hs : s.size ≤ 200000) : ∀ (d i k : Nat) (l : List ByteArray), s.size - i < d → i ≤ s.size → l.length ≤ i → d ≤ k → dovecoteref03_Scan.l0 k s l (i : Int) = some ((scanN d s l i).1, ((scanN d s l i).2 : Int)) ∧ (scanN d s l i).1.length ≤ s.size := by
  intro d
  induction d with
  | zero => intro i k l h; omega
  | succ d ih =>
    intro i k l hd hi hl hk
    obtain ⟨k, rfl⟩ : ∃ j, k = j + 1 := ⟨k - 1, by omega⟩
    unfold dovecoteref03_Scan.l0 scanN
    rw [if_pos (by omega), if_pos (by omega), Int.toNat_natCast]
    have e : dovecoteref03_Next.f (s.extract i s.size) = some (nxt (s.extract i s.size)) := if_pos (by rw [ByteArray.size_extract]; omega)
    rw [e, Option.bind_some]
    by_cases he : (nxt (s.extract i s.size)).2.2 = 0
    · obtain ⟨t, e1, e2, e3⟩ := nxt_inv _ he
      have hsz := congrArg ByteArray.size e1
      rw [ByteArray.size_append, ByteArray.size_extract] at hsz
      have hfs := frm_size (nxt (s.extract i s.size)).1
      have hes := encB_size (n := ((nxt (s.extract i s.size)).1.size : Int)) (by omega)
      rw [if_pos he, if_pos he, if_pos (by omega)]
      generalize nxt (s.extract i s.size) = V at *
      obtain ⟨p, m, er⟩ := V
      dsimp only at *
      rw [e3, show wrap64 ((i : Int) + ((frm p).size : Int)) = ((i + (frm p).size : Nat) : Int) by unfold wrap64; omega, Int.toNat_natCast]
      exact ih (i + (frm p).size) k (l ++ [p]) (by omega) (by omega) (by rw [List.length_append, List.length_singleton]; omega) (by omega)
    · rw [if_neg he, if_neg he]
      exact ⟨rfl, by show l.length ≤ s.size; omega⟩
theorem reads_true (s : ByteArray) : ∃ k, dovecotelaw03_FrameReads.f k s = some true := by
  refine ⟨s.size + 3, ?_⟩
  unfold dovecotelaw03_FrameReads.f
  have e : dovecotelaw03_awake.f = some true := rfl
  rw [e, Option.bind_some, if_pos rfl]
  by_cases h : (s.size : Int) > 40000
  · rw [if_pos h]
  · rw [if_neg h]
    have e1 : frame_Next.f s = some (nxt s) := if_pos (by omega)
    have e2 : dovecoteref03_Next.f s = some (nxt s) := if_pos (by omega)
    have e3 : frame_Sum.f s = some (sumN s : Int) := if_pos (by omega)
    have e4 : dovecoteref03_Sum.f s = some (sumN s : Int) := if_pos (by omega)
    rw [e1, Option.bind_some, e2, Option.bind_some, if_pos rfl, if_pos rfl, if_pos rfl, e3, Option.bind_some, e4, Option.bind_some]
    have e5 : (((sumN s : Nat) : Int) != ((sumN s : Nat) : Int)) = false := by simp
    rw [e5]
    show dovecotelaw03_FrameReads.j0 ((s.size + 2) + 1) s false = _
    rw [dovecotelaw03_FrameReads.j0]
    have e6 : frame_Scan.f s = some ((scan s).1, ((scan s).2 : Int)) := if_pos (by omega)
    obtain ⟨r1, r2⟩ := refscan_l0 s (by omega) (s.size + 1) 0 (s.size + 2) [] (by omega) (by omega) (Nat.le_refl _) (by omega)
    have e7 : dovecoteref03_Scan.f (s.size + 2) s = some ((scan s).1, ((scan s).2 : Int)) := r1
    have e8 : (scan s).1.length ≤ s.size := r2
    rw [if_neg (by decide), e6, Option.bind_some, e7, Option.bind_some]
    dsimp only
    rw [same_f' _ _ (by omega) (by omega), Option.bind_some, if_pos rfl]
    simp
theorem walk_FrameReads (s : ByteArray) (hs : s.size ≤ 140737488351232) (w : World) :
    Calls Try.prog 7 #[.string s] w fun e w' => e = .returned (.bool true) ∧ Below w.heap.size w w' := by
  obtain ⟨k, hk⟩ := reads_true s
  exact dovecotelaw03_FrameReads.calls k s true w hk
end Go.Proofs.Ytapgmedfedcliaa

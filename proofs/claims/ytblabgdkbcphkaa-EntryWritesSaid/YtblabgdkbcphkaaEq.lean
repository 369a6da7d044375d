/- The document's Read reads what entry's does. Conditions: those that each theorem names. -/
import Derived.Test.YtblabgdkbcphkaaEo
set_option linter.unusedVariables false
set_option linter.unusedSimpArgs false
set_option linter.constructorNameAsVariable false
namespace Go.Proofs.Ytblabgdkbcphkaa
open Go.RowKit Go.Deep Go.Proofs.YtblabgdkbcphkaaW.PrintWords Go.Proofs.YtblabgdkbcphkaaW.PrintLast Go.Proofs.YtblabgdkbcphkaaW.PrintMore Go.Proofs.Ytblabgdkbcphkaa.PEs Go.Proofs.Ytblabgdkbcphkaa.PRd
structure QSu (w : World) (g b2 b3 : Nat) (Z : Array Value) (s : ByteArray) (er : Int) (Q : Array Value) (W : World) : Prop where
  i : PDr.IsS75 w W g s er
  b : Below w.heap.size w W
  z : W.heap[b2]? = some (.cells Z 30 (0, 0))
  q : W.heap[b3]? = some (.cells Q 30 (0, 0))
section
variable {w W W1 : World} {g b2 b3 : Nat} {Z Q Q1 : Array Value} {s s1 : ByteArray} {er er1 : Int}
theorem QSu.call (h : QSu w g b2 b3 Z s er Q W) (ha : PUt w g b2 b3) (hl : Left2 w W W1 g s1 er1) : QSu w g b2 b3 Z s1 er1 Q W1 := ⟨hl.1, hl.2.1, blk_keep h.z hl.2.2 ha.c, blk_keep h.q hl.2.2 ha.d⟩
theorem QSu.store (h : QSu w g b2 b3 Z s er Q W) (ha : PUt w g b2 b3) (hq : W1.heap[b3]? = some (.cells Q1 30 (0, 0))) (hk : KeepBut W W1 b3 none) (hb : ∀ base w0, base ≤ b3 → Below base w0 W → Below base w0 W1) : QSu w g b2 b3 Z s er Q1 W1 :=
  ⟨⟨blk_keep h.i.1 hk (Ne.symm ha.d), h.i.2⟩, hb _ _ ha.b h.b, blk_keep h.z hk ha.e, hq⟩
theorem QSu.other (h : QSu w g b2 b3 Z s er Q W) {b : Nat} (hk : KeepBut W W1 b none) (hb : ∀ base w0, base ≤ b → Below base w0 W → Below base w0 W1) (h3 : g ≠ b ∧ b2 ≠ b ∧ b3 ≠ b ∧ w.heap.size ≤ b) : QSu w g b2 b3 Z s er Q W1 :=
  ⟨⟨blk_keep h.i.1 hk h3.1, h.i.2⟩, hb _ _ h3.2.2.2 h.b, blk_keep h.z hk h3.2.1, blk_keep h.q hk h3.2.2.1⟩
theorem QSu.alloc (h : QSu w g b2 b3 Z s er Q W) (o : Obj) : QSu w g b2 b3 Z s er Q (W.alloc o) := ⟨h.i.alloc o, below_alloc h.b o, blk_alloc h.z o, blk_alloc h.q o⟩
theorem QSu.grown (h : QSu w g b2 b3 Z s er Q W) {α : Type} {d : Kd α} {e : TypeId} {ok : Nat → Prop} {v : Value} {xs : List α} (hR : d.R e W w.heap.size ok v xs) (he : e ≠ 30) (he2 : e ≠ 75)
    (hg : W.grownBy W1 v.ownBlock) (hb : Below w.heap.size W W1) : QSu w g b2 b3 Z s er Q W1 :=
  ⟨⟨blk_grown h.i.1 hg (Kd.R_ne hR h.i.1 he2), h.i.2⟩, h.b.trans hb, blk_grown h.z hg (Kd.R_ne hR h.z he), blk_grown h.q hg (Kd.R_ne hR h.q he)⟩
theorem QSu.below (h : QSu w g b2 b3 Z s er Q W) (hb : Below W.heap.size W W1) : QSu w g b2 b3 Z s er Q W1 :=
  ⟨h.i.below hb, h.b.trans (hb.mono h.b.size), (hb.block _ (lt_at2 h.z)).trans h.z, (hb.block _ (lt_at2 h.q)).trans h.q⟩
end
end Go.Proofs.Ytblabgdkbcphkaa

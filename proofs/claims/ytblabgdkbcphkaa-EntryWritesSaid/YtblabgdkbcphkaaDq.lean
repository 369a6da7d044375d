/- The document's reader of layer 2 as contracts; stores into a row, as events; a struct that is being read. Conditions: those that each theorem names. -/
import Derived.Test.YtblabgdkbcphkaaDr
import Derived.Deep.MidRow
import Derived.Laws.Rows
set_option linter.unusedVariables false
set_option linter.unusedSimpArgs false
namespace Go.Proofs.Ytblabgdkbcphkaa
open Go.RowKit Go.Proofs.YtblabgdkbcphkaaW.PrintWords

section
variable {w0 w : World} {g : Nat} {s : ByteArray} {er : Int}
/-- What each of the document's reader's functions leaves. -/
abbrev Left2 (w0 w w' : World) (g : Nat) (s : ByteArray) (er : Int) : Prop := PDr.IsS75 w0 w' g s er ∧ Below w0.heap.size w0 w' ∧ KeepBut w w' g none
end

/-! Stores, as events: the world is named only by what it holds. -/
theorem lt_at2 {w : World} {i : Nat} {o : Obj} (h : w.heap[i]? = some o) : i < w.heap.size := (Array.getElem?_eq_some_iff.1 h).1
theorem blk_keep2 {w w1 : World} {i g : Nat} {o : Obj} (h : w.heap[i]? = some o) (hk : KeepBut w w1 g none) (hne : i ≠ g) : w1.heap[i]? = some o := (hk.2 i (lt_at2 h) hne (by simp)).trans h
def putAll2 (cur : Array Value) : Nat → List Value → Array Value
  | _, [] => cur
  | o, v :: vs => putAll2 (cur.setIfInBounds o v) (o + 1) vs
theorem heap_setCells2 (b : Nat) (t : TypeId) : ∀ (vs : List Value) (o : Nat) (cur : Array Value) (w : World), w.heap[b]? = some (.cells cur t (0, 0)) → (w.setCells b o vs).heap[b]? = some (.cells (putAll2 cur o vs) t (0, 0)) := by
  intro vs
  induction vs with
  | nil => intro o cur w h; exact h
  | cons v vs ih =>
    intro o cur w h
    exact ih (o + 1) _ _ (blk_put h o v rfl)
theorem below_setCells2 {base : Nat} {w0 : World} (b : Nat) (hb : base ≤ b) : ∀ (vs : List Value) (o : Nat) (w : World), Below base w0 w → Below base w0 (w.setCells b o vs) := by
  intro vs
  induction vs with
  | nil => intro o w h; exact h
  | cons v vs ih => intro o w h; exact ih (o + 1) _ (h.setCell hb _)
theorem keep_setCells2 (b : Nat) : ∀ (vs : List Value) (o : Nat) (w0 w : World), KeepBut w0 w b none → KeepBut w0 (w.setCells b o vs) b none := by
  intro vs
  induction vs with
  | nil => intro o w0 w h; exact h
  | cons v vs ih => intro o w0 w h; exact ih (o + 1) _ _ (h.set_ o v)
def spl2 (cur : List Value) (o : Nat) (vs : List Value) : List Value := cur.take o ++ (vs ++ cur.drop (o + vs.length))
theorem putAll_spl2 (vs : List Value) : ∀ (o : Nat) (cur : Array Value), o + vs.length ≤ cur.size → putAll2 cur o vs = (spl2 cur.toList o vs).toArray := by
  induction vs with
  | nil => intro o cur _; simp [putAll2, spl2]
  | cons v vs ih =>
    intro o cur h
    simp only [List.length_cons] at h
    have e : (cur.setIfInBounds o v).toList = cur.toList.take o ++ v :: cur.toList.drop (o + 1) := by
      rw [Array.toList_setIfInBounds, List.set_eq_take_append_cons_drop, if_pos (by simpa using (by omega : o < cur.size))]
    have hl : (cur.toList.take o).length = o := by rw [List.length_take, Array.length_toList]; omega
    rw [putAll2, ih (o + 1) _ (by simp; omega), e, spl2, spl2]
    congr 1
    have h1 : (cur.toList.take o ++ v :: cur.toList.drop (o + 1)).take (o + 1) = cur.toList.take o ++ [v] := by
      rw [List.take_append, List.take_of_length_le (by omega), hl, show o + 1 - o = 1 by omega]; rfl
    have h2 : (cur.toList.take o ++ v :: cur.toList.drop (o + 1)).drop (o + 1 + vs.length) = cur.toList.drop (o + (v :: vs).length) := by
      rw [List.drop_append, List.drop_eq_nil_of_le (by omega), hl, show o + 1 + vs.length - o = vs.length + 1 by omega, List.drop_succ_cons, List.drop_drop]
      simp only [List.nil_append, List.length_cons]
      congr 1
      omega
    rw [h1, h2, List.append_assoc]
    rfl
section
variable {P : Program} {ops : Array Oper} {rest : List Oper} {o : Oper} {a : Act} {Q : Exit → Act → World → Prop}
theorem run_storeVar_cells2 (w : World) (b off : Nat) (ty : TypeId) (v : Value) (cells : Array Value) (hv : v.cells = cells) (ht : w.there b off cells.size) (hi : (P.info? ty).map (·.size) = some cells.size) (h1 : cells.all (·.oneCell') = true) :
    (storeVar ty ⟨b, off, none⟩ v).run P w = .ok () (w.setCells b off cells.toList) := by
  have h2 : (storeVar ty ⟨b, off, none⟩ v).run P w = (storeVar ty ⟨b, off, none⟩ (.agg cells)).run P w := by
    unfold storeVar
    rw [hv]
    rfl
  rw [h2]
  exact run_storeVar_mid w b off ty cells ht hi h1
theorem store_ev2 {w : World} (hgd : o.guard = none) (ty : TypeId) (x y : Operand) (ho : o.op = .store ty x y) (hd : o.dst = none)
    (b off : Nat) (v : Value) (cells : Array Value) (hx : a.eval x = .pointer (some ⟨b, off, none⟩)) (hy : a.eval y = v) (hv : v.cells = cells)
    (t : TypeId) (old new : Array Value) (hg : w.heap[b]? = some (.cells old t (0, 0))) (hi : (P.info? ty).map (·.size) = some cells.size) (hsz : off + cells.size ≤ old.size) (h1 : cells.all (·.oneCell') = true)
    (hnew : (spl2 old.toList off cells.toList).toArray = new)
    (h : ∀ w1, w1.heap[b]? = some (.cells new t (0, 0)) → KeepBut w w1 b none → (∀ base w0, base ≤ b → Below base w0 w → Below base w0 w1) → wpList P ops Q rest a w1) : wpList P ops Q (o :: rest) a w := by
  refine wpList_plain hgd fun _ hK => ?_
  have ht : w.there b off cells.size := fun j hj => ⟨by
    rw [cell_of_row w b (off + j) old t (0, 0) hg, Array.getElem?_eq_getElem (by omega)]
    rfl, blk_frozen hg _⟩
  unfold Oper.wp execOp
  simp only [ho, hx, hy, Instr.storeAt, Instr.sureAddr, Sem.run_bind, Sem.run_pure, Result.andThen_ok, run_storeVar_cells2 w b off ty v cells hv ht hi h1]
  refine hK _ _ ?_
  rw [hd]
  exact h _ (by rw [← hnew, ← putAll_spl2 _ _ _ (by simpa using hsz)]; exact heap_setCells2 b t _ _ _ _ hg) (keep_setCells2 b _ _ _ _ (KeepBut.refl w b none)) (fun base w0 hb hB => below_setCells2 b hb _ _ _ hB)
end

/-! A struct that is being read: Z is the result's cell, Q the struct as it stands. -/
structure DAt (w0 w : World) (g b2 b3 : Nat) : Prop where
  a : w0.heap.size ≤ w.heap.size
  b : w.heap.size ≤ b2
  c : b2 < b3
  d : g < w.heap.size
structure DSt (w0 w : World) (g b2 b3 : Nat) (T : TypeId) (Z : Array Value) (s : ByteArray) (er : Int) (Q : Array Value) (W : World) : Prop where
  i : PDr.IsS75 w0 W g s er
  b : Below w0.heap.size w0 W
  k : KeepBut w W g none
  z : W.heap[b2]? = some (.cells Z T (0, 0))
  q : W.heap[b3]? = some (.cells Q T (0, 0))
section
variable {w0 w W W1 : World} {g b2 b3 : Nat} {T : TypeId} {Z Q Q1 : Array Value} {s s1 : ByteArray} {er er1 : Int}
theorem DSt.call (h : DSt w0 w g b2 b3 T Z s er Q W) (ha : DAt w0 w g b2 b3) (hl : Left2 w0 W W1 g s1 er1) : DSt w0 w g b2 b3 T Z s1 er1 Q W1 :=
  ⟨hl.1, hl.2.1, h.k.trans hl.2.2 (.inl rfl), blk_keep2 h.z hl.2.2 (by have := ha.b; have := ha.d; omega), blk_keep2 h.q hl.2.2 (by have := ha.b; have := ha.c; have := ha.d; omega)⟩
theorem DSt.store (h : DSt w0 w g b2 b3 T Z s er Q W) (ha : DAt w0 w g b2 b3) (hq : W1.heap[b3]? = some (.cells Q1 T (0, 0))) (hk : KeepBut W W1 b3 none) (hb : ∀ base w0, base ≤ b3 → Below base w0 W → Below base w0 W1) : DSt w0 w g b2 b3 T Z s er Q1 W1 :=
  ⟨⟨blk_keep2 h.i.1 hk (by have := ha.b; have := ha.c; have := ha.d; omega), h.i.2⟩, hb _ _ (by have := ha.a; have := ha.b; have := ha.c; omega) h.b,
   ⟨Nat.le_trans h.k.1 hk.1, fun i hi hg hr => (hk.2 i (Nat.lt_of_lt_of_le hi h.k.1) (by have := ha.b; have := ha.c; omega) (by simp)).trans (h.k.2 i hi hg hr)⟩,
   blk_keep2 h.z hk (by have := ha.c; omega), hq⟩
/-- Another block of its own, made since, is written. -/
theorem DSt.other (h : DSt w0 w g b2 b3 T Z s er Q W) (ha : DAt w0 w g b2 b3) {b : Nat} (hk : KeepBut W W1 b none) (hb : ∀ base w0, base ≤ b → Below base w0 W → Below base w0 W1) (h3 : b3 < b) : DSt w0 w g b2 b3 T Z s er Q W1 :=
  ⟨⟨blk_keep2 h.i.1 hk (by have := ha.b; have := ha.c; have := ha.d; omega), h.i.2⟩, hb _ _ (by have := ha.a; have := ha.b; have := ha.c; omega) h.b,
   ⟨Nat.le_trans h.k.1 hk.1, fun i hi hg hr => (hk.2 i (Nat.lt_of_lt_of_le hi h.k.1) (by have := ha.b; have := ha.c; omega) (by simp)).trans (h.k.2 i hi hg hr)⟩,
   blk_keep2 h.z hk (by have := ha.c; omega), blk_keep2 h.q hk (by omega)⟩
theorem DSt.alloc (h : DSt w0 w g b2 b3 T Z s er Q W) (o : Obj) : DSt w0 w g b2 b3 T Z s er Q (W.alloc o) :=
  ⟨h.i.alloc o, below_alloc h.b o, keep_alloc h.k o, blk_alloc h.z o, blk_alloc h.q o⟩
theorem DSt.drew (h : DSt w0 w g b2 b3 T Z s er Q W) : DSt w0 w g b2 b3 T Z s er Q W.drew :=
  ⟨h.i.drew, below_drew1 h.b, keep_drew h.k, blk_drew h.z, blk_drew h.q⟩
theorem DSt.grown (h : DSt w0 w g b2 b3 T Z s er Q W) (ha : DAt w0 w g b2 b3) {α : Type} {d : Kd α} {e : TypeId} {ok : Nat → Prop} {v : Value} {xs : List α} (hR : d.R e W w.heap.size ok v xs) (he : e ≠ T) (he2 : e ≠ 75)
    (hg : W.grownBy W1 v.ownBlock) (hb : Below w.heap.size W W1) : DSt w0 w g b2 b3 T Z s er Q W1 :=
  ⟨⟨blk_grown h.i.1 hg (Kd.R_ne hR h.i.1 he2), h.i.2⟩, below_weaken h.b ha.a hb, h.k.trans (KeepBut.of_grown hg g) (Kd.R_base2 hR), blk_grown h.z hg (Kd.R_ne hR h.z he), blk_grown h.q hg (Kd.R_ne hR h.q he)⟩
/-- A list that was made since keeps when a block of another type is written. -/
theorem R_thru2 {α : Type} {k : Kd α} {e base : Nat} {ok : Nat → Prop} {v : Value} {xs : List α} {t : Nat} {cells : Array Value} (h : Kd.R k e W base ok v xs) (hb : W.heap[g]? = some (.cells cells t (0, 0))) (ht : ∀ q, q ∈ e :: k.E → q ≠ t) (hk : KeepBut W W1 g none) : Kd.R k e W1 base ok v xs :=
  Kd.R_mono (Kd.R_keep (Kd.R_types h hb ht) hk fun _ hx => hx.2) fun _ hx => hx.1
/-- It is apart from what is made next. -/
theorem R_apart2 {α : Type} {k : Kd α} {e base : Nat} {v : Value} {xs : List α} (h : Kd.R k e W base (fun _ => True) v xs) (o : Obj) : Kd.R k e (W.alloc o) base (fun k => k ≠ W.heap.size) v xs :=
  Kd.R_alloc (Kd.R_mono (Kd.R_bound h) fun _ hx => Nat.ne_of_lt hx.2.2.1) o
theorem R_keep2 {α : Type} {k : Kd α} {e base : Nat} {v : Value} {xs : List α} {b : Nat} (h : Kd.R k e W base (fun k => k ≠ b) v xs) (hk : KeepBut W W1 b none) : Kd.R k e W1 base (fun k => k ≠ b) v xs :=
  Kd.R_keep h hk fun _ hx => hx
theorem R_free2 {α : Type} {k : Kd α} {e base : Nat} {ok : Nat → Prop} {v : Value} {xs : List α} (h : Kd.R k e W base ok v xs) : Kd.R k e W base (fun _ => True) v xs := Kd.R_mono h fun _ _ => trivial
end
end Go.Proofs.Ytblabgdkbcphkaa

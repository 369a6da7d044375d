/- A drum as a state: its room, its fuel, whether it is down, its areas; what a store leaves of it. Conditions: those that each theorem names. -/
import Derived.Test.YtahfcnbdladfbaaProg
import Derived.Test.YtahfcnbdladfbaaWMore
import Derived.Test.YtahfcnbdladfbaaWKept
import Derived.Test.YtahfcnbdladfbaaWWords
import Derived.WalkKit
import Derived.Lib.Hide
import Derived.Lib.ConvBytes
import Derived.Deep.LoopGhost
import Derived.Deep.RegionHeld3
set_option linter.unusedVariables false
set_option linter.unusedSimpArgs false
namespace Go.Proofs.Ytahfcnbdladfbaa
open Go.RowKit Go.Proofs.YtahfcnbdladfbaaW.PrintWords

theorem below_alloc' {w0 w : World} (h : Below w0.heap.size w0 w) (o : Obj) : Below w0.heap.size w0 (w.alloc o) := below_alloc h o
theorem bytesOf_append (a b : ByteArray) : bytesOf (a ++ b) = bytesOf a ++ bytesOf b := by
  unfold bytesOf
  rw [ByteArray.data_append]; simp
section
variable {P : Program} (w : World)
/-- Where the new slice lies: on the old row, or in a new block. -/
theorem append_str_at (base : Nat) (t u ty e : TypeId) (i : TypeInfo) (ht : P.underlying t = some (.slice e)) (hu : P.underlying u = some .string) (hi : P.info? e = some i) (hz : i.zero = some (.int .u8 0))
    (hsize : i.size = 1) (hby : i.bytes = 1) (v : Value) (n : Nat) (xs : List Value) (hown : w.ownsRow base e 1 v n xs) (s : ByteArray)
    (h63 : n + s.size ≤ maxLen) (hbytes : n + s.size ≤ 140737488355328) (hbase : base ≤ w.heap.size) {v' : Value} {w' : World} (hr : (Builtin.append_ #[t, u] ty #[v, .string s]).run P w = .ok v' w') :
    v'.ownBlock = v.ownBlock ∨ v'.ownBlock = some w.heap.size := by
  have hsmall : n + s.size ≤ 9223372036854775807 := by simp only [maxLen] at h63; omega
  have hxl : xs.length = n := by simpa using hown.1
  obtain ⟨v2, w2, hr2, _, _, hnil⟩ := Lib.run_append_own_string (P := P) w base t u ty e i ht hu hi hz hsize hby v n xs hown s h63 hbytes hbase
  rw [hr] at hr2
  injection hr2 with hv _
  subst hv
  rcases hown.2 with ⟨rfl, rfl⟩ | ⟨g, cap, cur, rfl, hbg, hg, hnc, hcm, hcs, htake⟩
  · by_cases hm : s.size = 0
    · exact .inl (by rw [hnil.2 ⟨rfl, hm⟩])
    · have h := run_append_nil_string (P := P) w t u ty e i (.int .u8 0) ht hu hi hz s (by omega) (by omega) (by rw [hby]; omega)
      rw [hr] at h
      injection h with h _
      exact .inr (by rw [h]; rfl)
  · by_cases hroom : n + s.size ≤ cap
    · have hcs' : cur.size = cap := by simpa using hcs
      have h := Lib.run_append_room_string (P := P) w t u ty e i ht hu hi hsize g n cap cur hg s hroom (by omega)
      rw [hr] at h
      injection h with h _
      exact .inl (by rw [h]; rfl)
    · have holds : ∀ j u, xs[j]? = some u → w.cell? ((⟨g, 0, none⟩ : Addr).add j) = some u := hown.cells (g := g) rfl
      have h := Lib.run_append_grow_string (P := P) w t u ty e i (.int .u8 0) ht hu hi hz ⟨g, 0, none⟩ n cap xs (by rw [hsize]; simpa using hxl) holds s (by omega) (by omega) (by rw [hby]; exact growslice_fits (by omega) (by omega))
      rw [hr] at h
      injection h with h _
      exact .inr (by rw [h]; rfl)
end

section
variable {P : Program} {ops : Array Oper} {rest : List Oper} {o : Oper} {a : Act} {Q : Exit → Act → World → Prop}
theorem append_str2 {w0 W : World} (base : Nat) (hgd : o.guard = none) (s x : Operand) (t u e : TypeId)
    (ho : o.op = .call { callee := .builtin .append, args := #[s, x], argTypes := #[t, u] })
    (ht : P.underlying t = some (.slice e)) (hu : P.underlying u = some .string) (hinfo : (P.info? e).map (fun i => (i.zero, i.size, i.bytes)) = some (some (.int .u8 0), 1, 1))
    (v : Value) (z y : ByteArray) (hs : a.eval s = v) (hx : a.eval x = .string y)
    (HO : W.ownsRow base e 1 v z.size (nums .u8 (bytesOf z))) (HB : Below base w0 W) (hbase : base ≤ W.heap.size) (hl : z.size + y.size ≤ 140737488355328)
    (h : ∀ v1 w1, w1.ownsRow base e 1 v1 (z ++ y).size (nums .u8 (bytesOf (z ++ y))) → Below base w0 w1 → W.grownBy w1 v.ownBlock → (v1.ownBlock = v.ownBlock ∨ ∃ b, v1.ownBlock = some b ∧ W.heap.size ≤ b) → wpList P ops Q rest (a.put o.dst v1) w1) :
    wpList P ops Q (o :: rest) a W := by
  obtain ⟨i0, hi, hzz⟩ := Option.map_eq_some_iff.1 hinfo
  simp only [Prod.mk.injEq] at hzz
  obtain ⟨hz0, hz1, hz2⟩ := hzz
  refine wpList_plain hgd fun K hK => ?_
  obtain ⟨v1, w1, hr, h2, h3, h4⟩ := Lib.run_append_own_string (P := P) W base t u o.type e i0 ht hu hi hz0 hz1 hz2 v z.size _ HO y (by simp only [maxLen]; omega) hl hbase
  have hat := append_str_at (P := P) W base t u o.type e i0 ht hu hi hz0 hz1 hz2 v z.size _ HO y (by simp only [maxLen]; omega) hl hbase hr
  unfold Oper.wp execOp
  simp only [ho, resolve, invoke, builtin, Sem.run_bind, Sem.run_pure, Result.andThen_ok, List.map_toArray, List.map_cons, List.map_nil, hs, hx, hr]
  refine hK _ _ (h v1 w1 ?_ (HB.grown h3 hbase (own_base HO)) h3 ?_)
  · rw [ByteArray.size_append, bytesOf_append]
    have e : nums .u8 (bytesOf z ++ bytesOf y) = nums .u8 (bytesOf z) ++ Lib.strCells y := by
      simp [nums, Lib.strCells, bytesOf]
    rw [e]
    exact h2
  · rcases hat with hat | hat
    · exact .inl hat
    · exact .inr ⟨_, hat, Nat.le_refl _⟩
end


/-- An area: its bytes, and how many of them are sure. -/
abbrev Ar := Option (ByteArray × Nat)
/-- The pointer at an area's place. -/
def ptr (a : Ar) (k : Nat) : Value := if a.isSome then .pointer (some ⟨k, 0, none⟩) else .pointer none
def upd {α : Type} (f : Nat → α) (n : Nat) (x : α) : Nat → α := fun i => if i = n then x else f i
theorem upd_at {α : Type} (f : Nat → α) (n : Nat) (x : α) : upd f n x n = x := if_pos rfl
theorem upd_ne {α : Type} (f : Nat → α) {n i : Nat} (x : α) (h : i ≠ n) : upd f n x i = f i := if_neg h
def dcells (room left : Int) (down : Bool) (P : Nat → Value) : Array Value := #[.int .i64 room, .int .i64 left, .bool down, P 0, P 1, P 2, P 3]
theorem dcells_at (room left : Int) (down : Bool) (P : Nat → Value) (n : Nat) (h : n < 4) : (dcells room left down P)[3 + n]? = some (P n) := by
  rcases (show n = 0 ∨ n = 1 ∨ n = 2 ∨ n = 3 by omega) with rfl | rfl | rfl | rfl <;> rfl
theorem dcells_set (room left : Int) (down : Bool) (P : Nat → Value) (n : Nat) (h : n < 4) (x : Value) : (dcells room left down P).setIfInBounds (3 + n) x = dcells room left down (upd P n x) := by
  rcases (show n = 0 ∨ n = 1 ∨ n = 2 ∨ n = 3 by omega) with rfl | rfl | rfl | rfl <;> rfl
/-- What else is there: blocks of other types, each with what it holds. -/
def NoX : Nat → Obj → Prop := fun _ _ => False
def XOk (o : Obj) : Prop := ∃ cs t fr, o = .cells cs t fr ∧ t ≠ 60 ∧ t ≠ 66 ∧ t ≠ 5
structure IsD (X : Nat → Obj → Prop) (w0 W : World) (g : Nat) (room left : Int) (down : Bool) (A : Nat → Ar) (K : Nat → Nat) (V : Nat → Value) : Prop where
  hb : W.heap[g]? = some (.cells (dcells room left down fun i => ptr (A i) (K i)) 60 (0, 0))
  hg : w0.heap.size ≤ g
  ha : ∀ i, i < 4 → ∀ b s, A i = some (b, s) → W.heap[K i]? = some (.cells #[V i, .int .i64 (s : Int)] 66 (0, 0)) ∧ w0.heap.size ≤ K i ∧ W.ownsRow w0.heap.size 5 1 (V i) b.size (nums .u8 (bytesOf b))
  hs : ∀ i j, i < 4 → j < 4 → i ≠ j → (A i).isSome = true → (A j).isSome = true → K i ≠ K j ∧ NeRow (V i) (V j)
  hx : ∀ k o, X k o → W.heap[k]? = some o ∧ XOk o
theorem lt_of_at {W : World} {k : Nat} {o : Obj} (h : W.heap[k]? = some o) : k < W.heap.size := (Array.getElem?_eq_some_iff.1 h).1
theorem row_ne {W : World} {base n g : Nat} {e t : TypeId} {v : Value} {xs : List Value} {cs : Array Value} {fr : Nat × Nat} (h : W.ownsRow base e 1 v n xs) (hb : W.heap[g]? = some (.cells cs t fr)) (ht : t ≠ e) : ∀ k, v.ownBlock = some k → k ≠ g := by
  intro k hk he
  subst he
  rcases h.2 with ⟨rfl, _⟩ | ⟨k', cap, cur, rfl, _, hh, _⟩
  · simp [Value.ownBlock] at hk
  · have : k' = k := by simpa [Value.ownBlock] using hk
    subst this
    rw [hh] at hb
    injection hb with hb
    injection hb with _ hb
    exact ht hb.symm
theorem blk_ty {W : World} {k g : Nat} {t t' : TypeId} {cs cs' : Array Value} {fr fr' : Nat × Nat} (h : W.heap[k]? = some (.cells cs t fr)) (h' : W.heap[g]? = some (.cells cs' t' fr')) (ht : t ≠ t') : k ≠ g := by
  rintro rfl
  rw [h] at h'
  injection h' with h'
  injection h' with _ h'
  exact ht h'
section
variable {X : Nat → Obj → Prop} {w0 W W1 : World} {g : Nat} {room left : Int} {down : Bool} {A : Nat → Ar} {K : Nat → Nat} {V : Nat → Value}
theorem IsD.more {Y : Nat → Obj → Prop} (h : IsD X w0 W g room left down A K V) (hy : ∀ k o, Y k o → W.heap[k]? = some o ∧ XOk o) : IsD Y w0 W g room left down A K V := ⟨h.hb, h.hg, h.ha, h.hs, hy⟩
/-- Nothing of it is touched. -/
theorem IsD.move (h : IsD X w0 W g room left down A K V) (hm : ∀ k, k < W.heap.size → W1.heap[k]? = W.heap[k]?) : IsD X w0 W1 g room left down A K V := by
  refine ⟨(hm g (lt_of_at h.hb)).trans h.hb, h.hg, fun i hi b s e => ?_, h.hs, fun k o hk => ⟨(hm k (lt_of_at (h.hx k o hk).1)).trans (h.hx k o hk).1, (h.hx k o hk).2⟩⟩
  obtain ⟨h1, h2, h3⟩ := h.ha i hi b s e
  exact ⟨(hm _ (lt_of_at h1)).trans h1, h2, own_move h3 fun k hk => hm k (own_lt h3 k hk)⟩
theorem IsD.below (h : IsD X w0 W g room left down A K V) (hb : Below W.heap.size W W1) : IsD X w0 W1 g room left down A K V := h.move hb.block
theorem IsD.alloc (h : IsD X w0 W g room left down A K V) (o : Obj) : IsD X w0 (W.alloc o) g room left down A K V := h.below (below_alloc (Below.refl _ _) o)
theorem IsD.drew (h : IsD X w0 W g room left down A K V) : IsD X w0 W.drew g room left down A K V := h.move fun _ _ => rfl
/-- A store into the drum's own block. -/
theorem IsD.store (h : IsD X w0 W g room left down A K V) (j : Nat) (x : Value) {room' left' : Int} {down' : Bool} {A' : Nat → Ar} {K' : Nat → Nat} {V' : Nat → Value} (hc : (dcells room left down fun i => ptr (A i) (K i)).setIfInBounds j x = dcells room' left' down' fun i => ptr (A' i) (K' i))
    (ha : ∀ i, i < 4 → ∀ b s, A' i = some (b, s) → W.heap[K' i]? = some (.cells #[V' i, .int .i64 (s : Int)] 66 (0, 0)) ∧ w0.heap.size ≤ K' i ∧ W.ownsRow w0.heap.size 5 1 (V' i) b.size (nums .u8 (bytesOf b)))
    (hs : ∀ i j, i < 4 → j < 4 → i ≠ j → (A' i).isSome = true → (A' j).isSome = true → K' i ≠ K' j ∧ NeRow (V' i) (V' j)) : IsD X w0 (W.setCell ⟨g, j, none⟩ x) g room' left' down' A' K' V' := by
  have hb := h.hb
  have hm : ∀ k, k ≠ g → (W.setCell ⟨g, j, none⟩ x).heap[k]? = W.heap[k]? := fun k hk => Below.heap_setCell W ⟨g, j, none⟩ x k hk
  refine ⟨?_, h.hg, fun i hi b s e => ?_, hs, fun k o hk => ⟨(hm k ?_).trans (h.hx k o hk).1, (h.hx k o hk).2⟩⟩
  rotate_left 2
  · obtain ⟨h1, cs, t, fr, rfl, h2, _, _⟩ := h.hx k o hk
    exact blk_ty h1 hb h2
  · rw [← hc]
    simp only [World.setCell, Array.getElem?_modify, hb]
    simp
  · obtain ⟨h1, h2, h3⟩ := ha i hi b s e
    exact ⟨(hm _ (blk_ty h1 hb (by decide))).trans h1, h2, own_move h3 fun k hk => hm k (row_ne h3 hb (by decide) k hk)⟩
theorem IsD.setLeft (h : IsD X w0 W g room left down A K V) (x : Int) : IsD X w0 (W.setCell ⟨g, 1, none⟩ (.int .i64 x)) g room x down A K V := h.store 1 _ rfl h.ha h.hs
theorem IsD.setDown (h : IsD X w0 W g room left down A K V) (x : Bool) : IsD X w0 (W.setCell ⟨g, 2, none⟩ (.bool x)) g room left x A K V := h.store 2 _ rfl h.ha h.hs
theorem IsD.lay (h : IsD X w0 W g room left down A K V) (hw : w0.heap.size ≤ W.heap.size) (n : Nat) (hn : n < 4) :
    IsD X w0 ((W.alloc (.cells #[.slice none 0 0, .int .i64 0] 66)).setCell ⟨g, 3 + n, none⟩ (.pointer (some ⟨W.heap.size, 0, none⟩))) g room left down (upd A n (some (ByteArray.empty, 0))) (upd K n W.heap.size) (upd V n (.slice none 0 0)) := by
  have h1 := h.alloc (.cells #[.slice none 0 0, .int .i64 0] 66)
  refine h1.store (3 + n) _ ?_ ?_ ?_
  · rw [dcells_set _ _ _ _ n hn]
    congr 1
    funext i
    by_cases e : i = n
    · subst e; rw [upd_at, upd_at, upd_at]; rfl
    · rw [upd_ne _ _ e, upd_ne _ _ e, upd_ne _ _ e]
  · intro i hi b s e
    by_cases en : i = n
    · subst en
      rw [upd_at] at e ⊢
      rw [upd_at]
      injection e with e
      injection e with e1 e2
      subst e1 e2
      exact ⟨heap_alloc_new W _, hw, own_nil _ _ _ _⟩
    · rw [upd_ne _ _ en] at e ⊢
      rw [upd_ne _ _ en]
      exact h1.ha i hi b s e
  · intro i j hi hj hij e1 e2
    have hk : ∀ i, i < 4 → (A i).isSome = true → K i < W.heap.size := by
      intro i hi e
      obtain ⟨⟨b, s⟩, e⟩ := Option.isSome_iff_exists.1 e
      exact lt_of_at (h.ha i hi b s e).1
    have nn : ∀ v : Value, NeRow (.slice none 0 0) v := fun v k hk => by simp [Value.ownBlock] at hk
    have nn2 : ∀ v : Value, NeRow v (.slice none 0 0) := fun v k hk => by simp [Value.ownBlock]
    by_cases a : i = n
    · subst a
      rw [upd_ne _ _ (Ne.symm hij)] at e2
      rw [upd_at, upd_at, upd_ne _ _ (Ne.symm hij), upd_ne _ _ (Ne.symm hij)]
      have := hk j hj e2
      exact ⟨by omega, nn _⟩
    · rw [upd_ne _ _ a] at e1
      by_cases b : j = n
      · subst b
        rw [upd_at, upd_at, upd_ne _ _ a, upd_ne _ _ a]
        have := hk i hi e1
        exact ⟨by omega, nn2 _⟩
      · rw [upd_ne _ _ b] at e2
        rw [upd_ne _ _ a, upd_ne _ _ a, upd_ne _ _ b, upd_ne _ _ b]
        exact h.hs i j hi hj hij e1 e2
theorem IsD.cut (h : IsD X w0 W g room left down A K V) (n : Nat) (hn : n < 4) : IsD X w0 (W.setCell ⟨g, 3 + n, none⟩ (.pointer none)) g room left down (upd A n none) K V := by
  refine h.store (3 + n) _ ?_ ?_ ?_
  · rw [dcells_set _ _ _ _ n hn]
    congr 1
    funext i
    by_cases e : i = n
    · subst e; rw [upd_at, upd_at]; rfl
    · rw [upd_ne _ _ e, upd_ne _ _ e]
  · intro i hi b s e
    by_cases en : i = n
    · subst en; rw [upd_at] at e; cases e
    · rw [upd_ne _ _ en] at e; exact h.ha i hi b s e
  · intro i j hi hj hij e1 e2
    by_cases a : i = n
    · subst a; rw [upd_at] at e1; cases e1
    · by_cases b : j = n
      · subst b; rw [upd_at] at e2; cases e2
      · rw [upd_ne _ _ a] at e1; rw [upd_ne _ _ b] at e2; exact h.hs i j hi hj hij e1 e2
/-- One area is another one now: its block, and a row of its own, where it was or new. -/
theorem IsD.area (h : IsD X w0 W g room left down A K V) (n : Nat) (hn : n < 4) {b0 b : ByteArray} {s0 s : Nat} {v : Value} (hA : A n = some (b0, s0))
    (hb : W1.heap[K n]? = some (.cells #[v, .int .i64 (s : Int)] 66 (0, 0))) (ho : W1.ownsRow w0.heap.size 5 1 v b.size (nums .u8 (bytesOf b))) (hat : v.ownBlock = (V n).ownBlock ∨ v.ownBlock = none ∨ ∃ k, v.ownBlock = some k ∧ W.heap.size ≤ k)
    (hm : ∀ k, k < W.heap.size → k ≠ K n → some k ≠ (V n).ownBlock → W1.heap[k]? = W.heap[k]?) : IsD X w0 W1 g room left down (upd A n (some (b, s))) K (upd V n v) := by
  obtain ⟨h1, h2, h3⟩ := h.ha n hn b0 s0 hA
  have hsome : (A n).isSome = true := by rw [hA]; rfl
  have hp : (fun i => ptr (upd A n (some (b, s)) i) (K i)) = fun i => ptr (A i) (K i) := by
    funext i
    by_cases e : i = n
    · subst e; rw [upd_at]; unfold ptr; rw [hsome]; rfl
    · rw [upd_ne _ _ e]
  refine ⟨?_, h.hg, ?_, ?_, fun k o hk => ⟨(hm k (lt_of_at (h.hx k o hk).1) ?_ ?_).trans (h.hx k o hk).1, (h.hx k o hk).2⟩⟩
  rotate_left 3
  · obtain ⟨g1, cs, t, fr, rfl, _, g2, _⟩ := h.hx k o hk
    exact blk_ty g1 h1 g2
  · obtain ⟨g1, cs, t, fr, rfl, _, _, g2⟩ := h.hx k o hk
    intro e
    exact row_ne h3 g1 g2 k e.symm rfl
  · rw [hp]
    refine (hm g (lt_of_at h.hb) (blk_ty h.hb h1 (by decide)) ?_).trans h.hb
    intro e
    exact row_ne h3 h.hb (by decide) g e.symm rfl
  · intro i hi b' s' e
    by_cases en : i = n
    · subst en
      rw [upd_at] at e ⊢
      injection e with e
      injection e with e1 e2
      subst e1 e2
      exact ⟨hb, h2, ho⟩
    · rw [upd_ne _ _ en] at e ⊢
      obtain ⟨i1, i2, i3⟩ := h.ha i hi b' s' e
      obtain ⟨d1, d2⟩ := h.hs i n hi hn en (by rw [e]; rfl) hsome
      refine ⟨(hm _ (lt_of_at i1) d1 ?_).trans i1, i2, own_move i3 fun k hk => hm k (own_lt i3 k hk) (row_ne i3 h1 (by decide) k hk) ?_⟩
      · intro he; exact row_ne h3 i1 (by decide) _ he.symm rfl
      · exact fun he => d2 k hk he.symm
  · intro i j hi hj hij e1 e2
    have hsm : ∀ i, (upd A n (some (b, s)) i).isSome = true → (A i).isSome = true := by
      intro i e
      by_cases en : i = n
      · subst en; exact hsome
      · rwa [upd_ne _ _ en] at e
    obtain ⟨d1, d2⟩ := h.hs i j hi hj hij (hsm i e1) (hsm j e2)
    refine ⟨d1, ?_⟩
    have hlt : ∀ i, i < 4 → (A i).isSome = true → ∀ k, (V i).ownBlock = some k → k < W.heap.size := by
      intro i hi e
      obtain ⟨⟨b, s⟩, e⟩ := Option.isSome_iff_exists.1 e
      exact own_lt (h.ha i hi b s e).2.2
    by_cases a : i = n
    · subst a
      rw [upd_at, upd_ne _ _ (Ne.symm hij)]
      rcases hat with hat | hat | ⟨k, hat, hk⟩
      · intro k hk; exact d2 k (hat.symm.trans hk)
      · intro k hk; rw [hat] at hk; cases hk
      · intro k' hk' e
        rw [hat] at hk'
        injection hk' with hk'
        subst hk'
        have := hlt j hj (hsm j e2) k e
        omega
    · rw [upd_ne _ _ a]
      by_cases b' : j = n
      · subst b'
        rw [upd_at]
        rcases hat with hat | hat | ⟨k, hat, hk⟩
        · intro k hk; rw [hat]; exact d2 k hk
        · intro k hk; rw [hat]; simp
        · intro k' hk' e
          rw [hat] at e
          injection e with e
          subst e
          have := hlt i hi (hsm i e1) k hk'
          omega
      · rw [upd_ne _ _ b']; exact d2
end
end Go.Proofs.Ytahfcnbdladfbaa

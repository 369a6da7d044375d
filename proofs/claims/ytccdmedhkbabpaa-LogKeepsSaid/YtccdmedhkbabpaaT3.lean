/- Texts of this claim, one behind the other: what their heads say. Conditions: those that each theorem names. -/
import Derived.OpenShut
import Derived.SizedLaws
import Derived.Test.YtccdmedhkbabpaaT2
set_option linter.unusedVariables false
set_option linter.unusedSimpArgs false
/- The log's Open. Conditions: those that each theorem names. -/
namespace Go.Proofs.Ytccdmedhkbabpaa
open Go.RowKit Go.Proofs.YtccdmedhkbabpaaW.PrintWords

/-- The best log among the first i areas: its area, generation, records, end, the area's size. -/
def bestTo (A : Nat → Ar) : Nat → Int × Int × List ByteArray × Nat × Nat
  | 0 => (-1, 0, [], 0, 0)
  | i + 1 => match A i with
    | none => bestTo A i
    | some x => if (lrd x.1).2.2.2 = true ∧ ((bestTo A i).1 < 0 ∨ (bestTo A i).2.1 < (lrd x.1).1) then ((i : Int), (lrd x.1).1, (lrd x.1).2.1, (lrd x.1).2.2.1, x.1.size) else bestTo A i
theorem bestTo_none {A : Nat → Ar} {i : Nat} (h : A i = none) : bestTo A (i + 1) = bestTo A i := by
  unfold bestTo; rw [h]
  cases i <;> rfl
theorem bestTo_no {A : Nat → Ar} {i : Nat} {s : ByteArray} {k : Nat} (h : A i = some (s, k)) (hn : ¬ ((lrd s).2.2.2 = true ∧ ((bestTo A i).1 < 0 ∨ (bestTo A i).2.1 < (lrd s).1))) : bestTo A (i + 1) = bestTo A i := by
  show (match A i with | none => bestTo A i | some x => _) = _
  rw [h]; exact if_neg hn
theorem bestTo_yes {A : Nat → Ar} {i : Nat} {s : ByteArray} {k : Nat} (h : A i = some (s, k)) (h1 : (lrd s).2.2.2 = true) (h2 : (bestTo A i).1 < 0 ∨ (bestTo A i).2.1 < (lrd s).1) : bestTo A (i + 1) = ((i : Int), (lrd s).1, (lrd s).2.1, (lrd s).2.2.1, s.size) := by
  show (match A i with | none => bestTo A i | some x => _) = _
  rw [h]; exact if_pos ⟨h1, h2⟩
theorem rdNum_range (s : ByteArray) : 0 ≤ (rdNum s 0 18446744073709551615).1 ∧ (rdNum s 0 18446744073709551615).1 ≤ 18446744073709551615 :=
  ⟨(rdNum_facts s 0 18446744073709551615 (by decide)).1, (rdNum_facts s 0 18446744073709551615 (by decide)).2.1⟩
theorem hdL_range (s : ByteArray) : 0 ≤ (hdL s).1 ∧ (hdL s).1 ≤ 18446744073709551615 := by
  unfold hdL
  split
  · exact ⟨by decide, by decide⟩
  · exact rdNum_range _
theorem lrd_range (s : ByteArray) : 0 ≤ (lrd s).1 ∧ (lrd s).1 ≤ 18446744073709551615 := by
  unfold lrd
  split
  · exact hdL_range s
  · exact ⟨by decide, by decide⟩
theorem lscN_end (s : ByteArray) : ∀ (k : Nat) (d : Bool) (l : List ByteArray) (i : Nat), i ≤ s.size → (lscN k s d l i).2.2 ≤ s.size := by
  intro k
  induction k with
  | zero => intro d l i hi; exact hi
  | succ k ih =>
    intro d l i hi
    obtain ⟨⟨p, m, er⟩, hV⟩ : ∃ x, nxt (s.extract i s.size) = x := ⟨_, rfl⟩
    by_cases hst : er ≠ 0 ∨ p.size = 0
    · rw [lsc_stop hV hst]; exact hi
    · have her : er = 0 := by
        by_cases h : er = 0
        · exact h
        · exact absurd (.inl h) hst
      have hp : p.size ≠ 0 := fun h => hst (.inr h)
      subst her
      obtain ⟨z, rfl, h1, h2, _⟩ := nxt_fits hV
      have h3 : i + z ≤ s.size := by
        rw [ByteArray.size_extract] at h2
        omega
      by_cases hd : d = false ∧ p = eP
      · obtain ⟨rfl, he⟩ := hd
        rw [lsc_end hV he]
        exact ih _ _ _ h3
      · have hd2 : d = true ∨ p ≠ eP := by
          cases d
          · exact .inr fun h => hd ⟨rfl, h⟩
          · exact .inl rfl
        by_cases hb : bt p 0 = if d then 82 else 67
        · rw [lsc_more hV hp hd2 hb]
          exact ih _ _ _ h3
        · rw [lsc_other hV hp hd2 hb]
          exact hi
theorem lrd_end (s : ByteArray) : (lrd s).2.2.1 ≤ s.size := by
  unfold lrd
  split
  · rename_i h
    obtain ⟨z, h1, h2, h3⟩ := hd_fits h.1
    rw [h1, Int.toNat_natCast]
    exact lscN_end s _ _ _ _ h3
  · exact Nat.zero_le _
theorem bestTo_facts (A : Nat → Ar) (i : Nat) : -1 ≤ (bestTo A i).1 ∧ (bestTo A i).1 < (i : Int) ∧ 0 ≤ (bestTo A i).2.1 ∧ (bestTo A i).2.1 ≤ 18446744073709551615 ∧ (bestTo A i).2.2.2.1 ≤ (bestTo A i).2.2.2.2 := by
  induction i with
  | zero => simp [bestTo]
  | succ i ih =>
    cases h : A i with
    | none => rw [bestTo_none h]; omega
    | some x =>
      obtain ⟨s, k⟩ := x
      by_cases hc : (lrd s).2.2.2 = true ∧ ((bestTo A i).1 < 0 ∨ (bestTo A i).2.1 < (lrd s).1)
      · rw [bestTo_yes h hc.1 hc.2]
        have h1 := lrd_range s
        have h2 := lrd_end s
        exact ⟨by dsimp only; omega, by dsimp only; omega, h1.1, h1.2, h2⟩
      · rw [bestTo_no h hc]; omega
theorem bestTo_neg (A : Nat → Ar) (i : Nat) : (bestTo A i).1 < 0 → bestTo A i = (-1, 0, [], 0, 0) := by
  induction i with
  | zero => intro _; rfl
  | succ i ih =>
    cases h : A i with
    | none => rw [bestTo_none h]; exact ih
    | some x =>
      obtain ⟨s, k⟩ := x
      by_cases hc : (lrd s).2.2.2 = true ∧ ((bestTo A i).1 < 0 ∨ (bestTo A i).2.1 < (lrd s).1)
      · rw [bestTo_yes h hc.1 hc.2]; intro hn; exact absurd hn (by dsimp only; omega)
      · rw [bestTo_no h hc]; exact ih
/-- All areas but one are cut, up to the i-th. -/
def cutsTo (left : Int) (down : Bool) (A : Nat → Ar) (ar : Int) : Nat → Rs
  | 0 => (0, left, down, A)
  | i + 1 => if (cutsTo left down A ar i).1 ≠ 0 then cutsTo left down A ar i
    else if hasR (cutsTo left down A ar i).2.2.2 i = true ∧ (i : Int) ≠ ar then thenCut (cutsTo left down A ar i) i else cutsTo left down A ar i
theorem cutsTo_fit {room left : Int} {down : Bool} {A : Nat → Ar} (h : Fit room left A) (ar : Int) (i : Nat) : FitR room (cutsTo left down A ar i) := by
  induction i with
  | zero => exact h
  | succ i ih =>
    unfold cutsTo
    split
    · exact ih
    · split
      · exact Fit.cut (down := (cutsTo left down A ar i).2.2.1) ih _
      · exact ih
theorem cutsTo_bad {left : Int} {down : Bool} {A : Nat → Ar} {ar : Int} (i j : Nat) (h : (cutsTo left down A ar i).1 ≠ 0) : cutsTo left down A ar (i + j) = cutsTo left down A ar i := by
  induction j with
  | zero => rfl
  | succ j ih =>
    have e : cutsTo left down A ar (i + (j + 1)) = if (cutsTo left down A ar (i + j)).1 ≠ 0 then cutsTo left down A ar (i + j)
      else if hasR (cutsTo left down A ar (i + j)).2.2.2 ((i + j : Nat) : Int) = true ∧ ((i + j : Nat) : Int) ≠ ar then thenCut (cutsTo left down A ar (i + j)) ((i + j : Nat) : Int) else cutsTo left down A ar (i + j) := rfl
    rw [e, if_pos (by rw [ih]; exact h), ih]
/-- Behind Open: the answer and the drum; the log's area, its generation, its records. -/
def openR (room left : Int) (down : Bool) (A : Nat → Ar) : Rs × Int × Int × List ByteArray :=
  if down = true then ((11, left, down, A), -1, 0, [])
  else if (cutsTo left down A (bestTo A 4).1 4).1 ≠ 0 then (cutsTo left down A (bestTo A 4).1 4, -1, 0, [])
  else if (bestTo A 4).1 < 0 then (layR room (cutsTo left down A (bestTo A 4).1 4).2.1 (cutsTo left down A (bestTo A 4).1 4).2.2.1 (cutsTo left down A (bestTo A 4).1 4).2.2.2 0 1 [], 0, 1, [])
  else if (bestTo A 4).2.2.2.1 < (bestTo A 4).2.2.2.2 then
    (stepR (cutsTo left down A (bestTo A 4).1 4).2.1 (cutsTo left down A (bestTo A 4).1 4).2.2.1 (cutsTo left down A (bestTo A 4).1 4).2.2.2 (bestTo A 4).1 (trimRef (bestTo A 4).2.2.2.1) (trimAct (bestTo A 4).2.2.2.1), (bestTo A 4).1, (bestTo A 4).2.1, (bestTo A 4).2.2.1)
  else (cutsTo left down A (bestTo A 4).1 4, (bestTo A 4).1, (bestTo A 4).2.1, (bestTo A 4).2.2.1)
theorem openR_fit {room left : Int} {down : Bool} {A : Nat → Ar} (h : Fit room left A) : FitR room (openR room left down A).1 := by
  have h1 : FitR room (cutsTo left down A (bestTo A 4).1 4) := cutsTo_fit h _ _
  unfold openR
  split
  · exact h
  · split
    · exact h1
    · split
      · exact layR_fit (down := (cutsTo left down A (bestTo A 4).1 4).2.2.1) h1 _ _ _
      · split
        · exact Fit.trim (down := (cutsTo left down A (bestTo A 4).1 4).2.2.1) h1 _ _
        · exact h1
/-- Beside what is told: the block of one variable. -/
def BX (Y : Nat → Obj → Prop) (bb : Nat) (bo : Obj) : Nat → Obj → Prop := fun k o => (k = bb ∧ o = bo) ∨ Y k o
def hobj (gen : Int) (v : Value) (en : Int) : Obj := .cells #[.int .u64 gen, v, .int .i64 en] 71 (0, 0)
theorem hobj_ok (gen : Int) (v : Value) (en : Int) : XOk (hobj gen v en) := ⟨_, _, _, rfl, by decide, by decide, by decide⟩
variable {Y : Nat → Obj → Prop} {w0 w : World} {g gl bb : Nat} {room left area gen : Int} {down : Bool} {A : Nat → Ar} {K : Nat → Nat} {V : Nat → Value}
/-- The log is told beside what was told. -/
theorem IsD.boxLog (h : IsD Y w0 w g room left down A K V) (ar ge : Int) : IsD (LX Y w.heap.size g ar ge) w0 (w.alloc (lobj g ar ge)) g room left down A K V :=
  (h.alloc _).more fun k o hk => by
    rcases hk with ⟨rfl, rfl⟩ | hk
    · exact ⟨heap_alloc_new w _, lobj_ok _ _ _⟩
    · exact ((h.alloc _).hx k o hk)
/-- The blocks of a row of texts. -/
def RX (W1 : World) (v : Value) : Nat → Obj → Prop := fun k o => v.ownBlock = some k ∧ W1.heap[k]? = some o
theorem RX_R {W1 W : World} {base : Nat} {v : Value} {l : List ByteArray} (h : Kd.R Kd.string 9 W1 base (fun _ => True) v l) (hk : ∀ k o, RX W1 v k o → W.heap[k]? = some o) : Kd.R Kd.string 9 W base (fun _ => True) v l := by
  obtain ⟨a1, cs, ho, a3⟩ := h
  refine ⟨a1, cs, own_move ho (fun k hk1 => ?_), a3⟩
  have hlt := own_lt ho k hk1
  have e : W1.heap[k]? = some W1.heap[k] := Array.getElem?_eq_getElem hlt
  rw [e]
  exact hk k _ ⟨hk1, e⟩
theorem RX_ok {W1 : World} {base : Nat} {v : Value} {l : List ByteArray} (h : Kd.R Kd.string 9 W1 base (fun _ => True) v l) {k : Nat} {o : Obj} (hk : RX W1 v k o) : XOk o := by
  obtain ⟨a1, cs, ho, a3⟩ := h
  rcases ho.2 with ⟨rfl, _⟩ | ⟨k', cap, cur, rfl, _, hh, _⟩
  · exact absurd hk.1 (by simp [Value.ownBlock])
  · have : k' = k := by simpa [Value.ownBlock] using hk.1
    subst this
    rw [hk.2] at hh
    injection hh with hh
    exact ⟨_, _, _, hh, by decide, by decide, by decide⟩
theorem IsD.andRow {X : Nat → Obj → Prop} {base : Nat} {v : Value} {l : List ByteArray} (h : IsD X w0 w g room left down A K V) (hR : Kd.R Kd.string 9 w base (fun _ => True) v l) : IsD (fun k o => X k o ∨ RX w v k o) w0 w g room left down A K V :=
  h.more fun k o hk => hk.elim (h.hx k o) fun hk => ⟨hk.2, RX_ok hR hk⟩
theorem IsD.outRow {X : Nat → Obj → Prop} {W1 : World} {v : Value} (h : IsD (fun k o => X k o ∨ RX W1 v k o) w0 w g room left down A K V) : IsD X w0 w g room left down A K V := h.more fun k o hk => h.hx k o (.inl hk)
theorem IsD.rowOut {X : Nat → Obj → Prop} {W1 : World} {base : Nat} {v : Value} {l : List ByteArray} (h : IsD (fun k o => X k o ∨ RX W1 v k o) w0 w g room left down A K V) (hR : Kd.R Kd.string 9 W1 base (fun _ => True) v l) : Kd.R Kd.string 9 w base (fun _ => True) v l := RX_R hR fun k o hk => (h.hx k o (.inr hk)).1
/-- The log's area and the best log's variable are stored. -/
theorem IsD.setBest {bg be : Int} {v : Value} (h : IsD (LX (BX Y (gl + 1) (hobj bg v be)) gl g area gen) w0 w g room left down A K V) (hY : ∀ k o, Y k o → k < gl) (a' bg' be' : Int) (v' : Value) :
    IsD (LX (BX Y (gl + 1) (hobj bg' v' be')) gl g a' gen) w0 ((((w.setCell ⟨gl, 1, none⟩ (.int .i64 a')).setCell ⟨gl + 1, 0, none⟩ (.int .u64 bg')).setCell ⟨gl + 1, 1, none⟩ v').setCell ⟨gl + 1, 2, none⟩ (.int .i64 be')) g room left down A K V := by
  have hl := LX.at h
  have hb := (h.hx (gl + 1) _ (.inr (.inl ⟨rfl, rfl⟩))).1
  have hm : ∀ k, k ≠ gl → k ≠ gl + 1 → ((((w.setCell ⟨gl, 1, none⟩ (.int .i64 a')).setCell ⟨gl + 1, 0, none⟩ (.int .u64 bg')).setCell ⟨gl + 1, 1, none⟩ v').setCell ⟨gl + 1, 2, none⟩ (.int .i64 be')).heap[k]? = w.heap[k]? := fun k h1 h2 =>
    (Below.heap_setCell _ ⟨gl + 1, 2, none⟩ _ k h2).trans ((Below.heap_setCell _ ⟨gl + 1, 1, none⟩ _ k h2).trans ((Below.heap_setCell _ ⟨gl + 1, 0, none⟩ _ k h2).trans (Below.heap_setCell _ ⟨gl, 1, none⟩ _ k h1)))
  refine ⟨(hm g (blk_ty h.hb hl (by decide)) (blk_ty h.hb hb (by decide))).trans h.hb, h.hg, fun i hi b s e => ?_, h.hs, fun k o hk => ?_⟩
  · obtain ⟨h1, h2, h3⟩ := h.ha i hi b s e
    exact ⟨(hm _ (blk_ty h1 hl (by decide)) (blk_ty h1 hb (by decide))).trans h1, h2, own_move h3 fun k hk => hm k (row_ne h3 hl (by decide) k hk) (row_ne h3 hb (by decide) k hk)⟩
  · rcases hk with ⟨rfl, rfl⟩ | ⟨rfl, rfl⟩ | hk
    · refine ⟨?_, lobj_ok _ _ _⟩
      refine (Below.heap_setCell _ ⟨k + 1, 2, none⟩ _ k (by show k ≠ k + 1; omega)).trans ((Below.heap_setCell _ ⟨k + 1, 1, none⟩ _ k (by show k ≠ k + 1; omega)).trans ((Below.heap_setCell _ ⟨k + 1, 0, none⟩ _ k (by show k ≠ k + 1; omega)).trans ?_))
      exact blk_put (cs := #[.pointer (some ⟨g, 0, none⟩), .int .i64 area, .int .u64 gen]) hl 1 _ rfl
    · refine ⟨?_, hobj_ok _ _ _⟩
      refine blk_put (cs := #[.int .u64 bg', v', .int .i64 be]) ?_ 2 _ rfl
      refine blk_put (cs := #[.int .u64 bg', v, .int .i64 be]) ?_ 1 _ rfl
      refine blk_put (cs := #[.int .u64 bg, v, .int .i64 be]) ?_ 0 _ rfl
      exact (Below.heap_setCell _ ⟨gl, 1, none⟩ _ (gl + 1) (by show gl + 1 ≠ gl; omega)).trans hb
    · obtain ⟨h1, h2⟩ := h.hx k o (.inr (.inr hk))
      have := hY k o hk
      exact ⟨(hm k (by omega) (by omega)).trans h1, h2⟩
theorem R_setBest {bg be a' bg' be' : Int} {v v' v3 : Value} {base : Nat} {l : List ByteArray} (h : IsD (LX (BX Y (gl + 1) (hobj bg v be)) gl g area gen) w0 w g room left down A K V) (hR : Kd.R Kd.string 9 w base (fun _ => True) v3 l) (hb : w0.heap.size ≤ base) :
    Kd.R Kd.string 9 ((((w.setCell ⟨gl, 1, none⟩ (.int .i64 a')).setCell ⟨gl + 1, 0, none⟩ (.int .u64 bg')).setCell ⟨gl + 1, 1, none⟩ v').setCell ⟨gl + 1, 2, none⟩ (.int .i64 be')) w0.heap.size (fun _ => True) v3 l := by
  have hl := LX.at h
  have hx := (h.hx (gl + 1) _ (.inr (.inl ⟨rfl, rfl⟩))).1
  obtain ⟨a1, cs, ho, a3⟩ := Kd.R_lower hR hb
  refine ⟨a1, cs, own_move ho (fun k hk => ?_), a3⟩
  have h1 := row_ne' ho hl (by decide) k hk
  have h2 := row_ne' ho hx (by decide) k hk
  exact (Below.heap_setCell _ ⟨gl + 1, 2, none⟩ _ k h2).trans ((Below.heap_setCell _ ⟨gl + 1, 1, none⟩ _ k h2).trans ((Below.heap_setCell _ ⟨gl + 1, 0, none⟩ _ k h2).trans (Below.heap_setCell _ ⟨gl, 1, none⟩ _ k h1)))
/-- A store into a block that is told. -/
theorem IsD.setIn {X : Nat → Obj → Prop} (h : IsD X w0 w g room left down A K V) {k0 : Nat} {cs : Array Value} {t : TypeId} (hk : X k0 (.cells cs t (0, 0))) (j : Nat) (x : Value) :
    IsD (fun k o => (k = k0 ∧ o = .cells (cs.setIfInBounds j x) t (0, 0)) ∨ (k ≠ k0 ∧ X k o)) w0 (w.setCell ⟨k0, j, none⟩ x) g room left down A K V := by
  obtain ⟨hl, _, _, _, he, t1, t2, t3⟩ := h.hx k0 _ hk
  injection he with e1 e2 e3
  subst e1 e2 e3
  have hm : ∀ k, k ≠ k0 → (w.setCell ⟨k0, j, none⟩ x).heap[k]? = w.heap[k]? := fun k hk => Below.heap_setCell _ ⟨k0, j, none⟩ _ k hk
  refine ⟨(hm g (blk_ty h.hb hl t1.symm)).trans h.hb, h.hg, fun i hi b s e => ?_, h.hs, fun k o hk => ?_⟩
  · obtain ⟨h1, h2, h3⟩ := h.ha i hi b s e
    exact ⟨(hm _ (blk_ty h1 hl t2.symm)).trans h1, h2, own_move h3 fun k hk => hm k (row_ne h3 hl t3 k hk)⟩
  · rcases hk with ⟨rfl, rfl⟩ | ⟨hne, hk⟩
    · exact ⟨blk_put hl j x rfl, _, _, _, rfl, t1, t2, t3⟩
    · exact ⟨(hm k hne).trans (h.hx k o hk).1, (h.hx k o hk).2⟩
theorem wrp_size (p : ByteArray) : (wrp p).1.size ≤ p.size + 14 := by
  unfold wrp
  split
  · exact Nat.zero_le _
  · rw [frm_size]
    have := (encB_size (n := (p.size : Int)) (by omega)).2
    omega
theorem layB_nil (gen : Int) (h : gen ≤ 18446744073709551615) : (layB gen []).size ≤ 100 := by
  have e : layB gen [] = (wrp (gP gen)).1 ++ ((wrp eP).1 ++ ByteArray.empty) := rfl
  rw [e, ByteArray.size_append, ByteArray.size_append]
  have h1 := wrp_size (gP gen)
  have h2 := wrp_size eP
  have h3 := (encB_size h).2
  have h4 : (gP gen).size = 1 + (encB gen).size := by unfold gP; rw [ByteArray.size_append]; rfl
  have h5 : eP.size = 1 := rfl
  have h6 : ByteArray.empty.size = 0 := rfl
  omega
/-- What Open leaves. -/
def OpenD (Y : Nat → Obj → Prop) (w0 w : World) (g : Nat) (room : Int) (r : Rs × Int × Int × List ByteArray) (e : Ending) (w' : World) : Prop :=
  (r.1.1 ≠ 0 ∧ e = .returned (.tuple #[.pointer none, .slice none 0 0, .int .i64 r.1.1]) ∧ AtD Y w0 w' g room r.1) ∨
  (r.1.1 = 0 ∧ ∃ (gl : Nat) (v : Value), e = .returned (.tuple #[.pointer (some ⟨gl, 0, none⟩), v, .int .i64 0]) ∧ w.heap.size ≤ gl ∧ AtD (LX Y gl g r.2.1 r.2.2.1) w0 w' g room r.1 ∧ Kd.R Kd.string 9 w' w0.heap.size (fun _ => True) v r.2.2.2)
/-- The log that was read is handed out: its generation is stored. -/
theorem open_end {w1 : World} {r : Rs} {v : Value} {l : List ByteArray} {bg be ar : Int} {rr : Rs × Int × Int × List ByteArray} (hr : rr = (r, ar, bg, l)) (h0 : r.1 = 0)
    (h : IsD (LX (BX Y (gl + 1) (hobj bg v be)) gl g ar 0) w0 w1 g room r.2.1 r.2.2.1 r.2.2.2 K V) (hY : ∀ k o, Y k o → k < gl) (hgl : w0.heap.size ≤ gl) (hw : w.heap.size ≤ gl) (hB : Below w0.heap.size w0 w1) (hR : Kd.R Kd.string 9 w1 w0.heap.size (fun _ => True) v l) (m : Nat) :
    OpenD Y w0 w g room rr (.returned (.tuple #[.pointer (some ⟨gl, 0, none⟩), v, .int .i64 0])) ((w1.setCell ⟨gl, 2, none⟩ (.int .u64 bg)).drewN m) := by
  subst hr
  refine .inr ⟨h0, gl, v, rfl, hw, ⟨⟨K, V, ?_⟩, ?_⟩, ?_⟩
  · refine IsD.move (W := w1.setCell ⟨gl, 2, none⟩ (.int .u64 bg)) ?_ (fun _ _ => rfl)
    refine (h.setIn (k0 := gl) (.inl ⟨rfl, rfl⟩) 2 (.int .u64 bg)).more fun k o hk => ?_
    rcases hk with ⟨rfl, rfl⟩ | hk
    · exact (h.setIn (k0 := k) (.inl ⟨rfl, rfl⟩) 2 (.int .u64 bg)).hx k _ (.inl ⟨rfl, rfl⟩)
    · have := hY k o hk
      exact (h.setIn (k0 := gl) (.inl ⟨rfl, rfl⟩) 2 (.int .u64 bg)).hx k _ (.inr ⟨by omega, .inr (.inr hk)⟩)
  · exact pw_below_drewN (hB.setCell (p := ⟨gl, 2, none⟩) hgl _) m
  · have hl := LX.at h
    obtain ⟨a1, cs, ho, a3⟩ := hR
    exact ⟨a1, cs, own_move ho (fun k hk => Below.heap_setCell _ ⟨gl, 2, none⟩ _ k (row_ne' ho hl (by decide) k hk)), a3⟩

set_option maxRecDepth 100000 in
set_option maxHeartbeats 32000000 in
theorem lopen_calls (hI : IsD Y w0 w g room left down A K V) (hB : Below w0.heap.size w0 w) (hF : Fit room left A) (hrm0 : room ≤ 1048576) :
    Calls Try.prog 10 #[.pointer (some ⟨g, 0, none⟩)] w (OpenD Y w0 w g room (openR room left down A)) := by
  have HI := Lib.hid hI
  have HB := Lib.hid hB
  have HF := Lib.hid hF
  have HRM := Lib.hid hrm0
  have HSZ : Hid (∀ i s k, i < 4 → A i = some (s, k) → s.size ≤ 1048576) := Lib.hid (by
    intro i s k hi hA
    have h1 := sz_le A i hi
    rw [hA] at h1
    have h2 : s.size ≤ usedTo A 4 := h1
    have h3 := hF.used
    omega)
  clear hI hB hF hrm0
  cases down with
  | true =>
    have HR : Hid (openR room left true A = ((11, left, true, A), -1, 0, [])) := Lib.hid (if_pos rfl)
    go_enter Try.func10, Try.ntmps10
    go_wp2_with fail
    refine (down_calls HI.out).mono ?_
    rintro e w1 ⟨rfl, rfl⟩
    go_wp2_with fail
    go_ret3
    rw [HR.out]
    exact .inl ⟨by show (11 : Int) ≠ 0; decide, rfl, ⟨K, V, HI.out⟩, HB.out⟩
  | false =>
    have HI1 := Lib.hid (HI.out.boxLog (-1) 0)
    have HB1 := Lib.hid (below_alloc' HB.out (lobj g (-1) 0))
    have HGW : Hid (w0.heap.size ≤ w.heap.size) := Lib.hid HB.out.size
    have HGL : Hid (∀ k o, Y k o → k < w.heap.size) := Lib.hid (fun k o hk => lt_of_at (HI.out.hx k o hk).1)
    go_enter Try.func10, Try.ntmps10
    go_wp2_with fail
    refine (down_calls HI.out).mono ?_
    rintro e w1 ⟨rfl, rfl⟩
    obtain ⟨gl, hgl⟩ : ∃ gl, gl = w1.heap.size := ⟨_, rfl⟩
    obtain ⟨wa, hwa⟩ : ∃ wa, wa = w1.alloc (lobj g (-1) 0) := ⟨_, rfl⟩
    rw [← hgl, ← hwa] at HI1
    rw [← hwa] at HB1
    have HI2 : Hid (IsD (LX (BX Y wa.heap.size (hobj 0 (.slice none 0 0) 0)) gl g (-1) 0) w0 (wa.alloc (hobj 0 (.slice none 0 0) 0)) g room left false A K V) := Lib.hid ((HI1.out.alloc _).more fun k o hk => by
      rcases hk with hk | ⟨rfl, rfl⟩ | hk
      · exact (HI1.out.alloc _).hx k o (.inl hk)
      · exact ⟨heap_alloc_new wa _, hobj_ok _ _ _⟩
      · exact (HI1.out.alloc _).hx k o (.inr hk))
    have HB2 := Lib.hid (below_alloc' HB1.out (hobj 0 (.slice none 0 0) 0))
    have HSA : Hid (wa.heap.size = gl + 1) := Lib.hid (by rw [hwa, hgl]; simp)
    obtain ⟨wb, hwb⟩ : ∃ wb, wb = wa.alloc (hobj 0 (.slice none 0 0) 0) := ⟨_, rfl⟩
    obtain ⟨bb, hbb⟩ : ∃ bb, bb = wa.heap.size := ⟨_, rfl⟩
    rw [← hbb, ← hwb] at HI2
    rw [← hwb] at HB2
    obtain rfl : bb = gl + 1 := by rw [hbb, HSA.out]
    have HGLE := Lib.hid hgl
    rw [← hgl] at HGL HGW
    have HWA := Lib.hid (show w1.alloc (.cells #[.pointer (some ⟨g, 0, none⟩), .int .i64 (-1), .int .u64 0] 69) = wa from hwa.symm)
    have HWB := Lib.hid (show wa.alloc (.cells #[.int .u64 0, .slice none 0 0, .int .i64 0] 71) = wb from hwb.symm)
    clear hgl hwa hwb hbb HI1 HB1 HSA
    go_wp2_with fail
    rw [HWA.out, HWB.out, ← HGLE.out]
    clear HWA HWB
    go_loopg [7, 21] 5 (fun gk v7 v21 wr => ∃ (i : Nat) (v : Value), i ≤ 4 ∧ v7 = .int .i64 ((bestTo A i).2.2.2.2 : Int) ∧ v21 = .int .i64 (i : Int) ∧ Aside0 (i + gk = 5) ∧
      Aside0 (IsD (LX (BX Y (gl + 1) (hobj (bestTo A i).2.1 v ((bestTo A i).2.2.2.1 : Int))) gl g (bestTo A i).1 0) w0 wr g room left false A K V ∧ Below w0.heap.size w0 wr ∧ Kd.R Kd.string 9 wr w0.heap.size (fun _ => True) v (bestTo A i).2.2.1))
    case atStart => exact ⟨0, .slice none 0 0, by decide, rfl, rfl, ⟨rfl⟩, ⟨HI2.out, HB2.out, Kd.R_nil _ _ _ _ _⟩⟩
    case round =>
      obtain ⟨wo, rfl⟩ : ∃ wo : World, wo = wr := ⟨_, rfl⟩
      obtain ⟨gout, rfl⟩ : ∃ gout : Nat, gout = gk := ⟨_, rfl⟩
      obtain ⟨i, v, hi4, rfl, rfl, ⟨hg⟩, ⟨hI, hB, hR⟩⟩ := hrel
      have HG := Lib.hid hg
      have HIo := Lib.hid hI
      have HBo := Lib.hid hB
      have HRo := Lib.hid hR
      have HFA := Lib.hid (bestTo_facts A i)
      clear hg hI hB hR HI2 HB2
      rcases (show i < 4 ∨ i = 4 by omega) with hlt | hlt
      · have HRD := Lib.hid (show (A i = none → readR false A (i : Int) = (⟨#[]⟩, 12)) ∧ (∀ s k, A i = some (s, k) → readR false A (i : Int) = (s, 0)) by
          unfold readR
          rw [if_neg (by decide), if_neg (by omega), Int.toNat_natCast]
          exact ⟨fun h => by rw [h], fun s k h => by rw [h]⟩)
        go_wp2_with fail
        refine (read_calls (i : Int) (HIo.out.andRow HRo.out) HBo.out ⟨by omega, by omega⟩).mono ?_
        rintro e w2 ⟨rfl, hI2, hB2⟩
        have HI2 := Lib.hid hI2.outRow
        have HB2 := Lib.hid hB2
        have HR2 : Hid (Kd.R Kd.string 9 w2 w0.heap.size (fun _ => True) v (bestTo A i).2.2.1) := Lib.hid (hI2.rowOut HRo.out)
        clear hI2 hB2 HIo HBo HRo
        cases hA : A i with
        | none =>
          rw [HRD.out.1 hA]
          have HBT := Lib.hid (bestTo_none hA)
          clear hA HRD
          go_wp2_with fail
          go_roundg (gout - 1)
          case measure => have := HG.out; omega
          case rel => exact ⟨i + 1, v, by omega, by rw [HBT.out], by go_num, ⟨by have := HG.out; omega⟩, ⟨by rw [HBT.out]; exact HI2.out, HB2.out, by rw [HBT.out]; exact HR2.out⟩⟩
        | some x =>
          obtain ⟨s, sk⟩ := x
          rw [HRD.out.2 s sk hA]
          have hs20 := HSZ.out i s sk hlt hA
          have HBN := Lib.hid (bestTo_no hA)
          have HBY := Lib.hid (bestTo_yes hA)
          clear hA HRD
          go_wp2_with fail
          refine (lread_calls s hs20 w2).mono ?_
          rintro e w3 ⟨gen, v3, en, rfl, h1, h2, ⟨A3, n3, c3, rfl⟩, hB3⟩
          have HI3 := Lib.hid (HI2.out.below hB3)
          have HB3 := Lib.hid (below_then HB2.out HB2.out.size hB3)
          have HR3 := Lib.hid (Kd.R_below HR2.out hB3)
          have HW2 := Lib.hid HB2.out.size
          clear hB3 HI2 HB2 HR2
          cases hok : (lrd s).2.2.2 with
          | false =>
            have HBT := Lib.hid (HBN.out (by rw [hok]; simp))
            clear h1 h2 HBN HBY hok
            go_wp2_with fail
            go_roundg (gout - 1)
            case measure => have := HG.out; omega
            case rel => exact ⟨i + 1, v, by omega, by rw [HBT.out], by go_num, ⟨by have := HG.out; omega⟩, ⟨by rw [HBT.out]; exact HI3.out.alloc _, below_alloc' HB3.out _, by rw [HBT.out]; exact Kd.R_below HR3.out (below_alloc (Below.refl _ _) _)⟩⟩
          | true =>
            obtain ⟨rfl, rfl⟩ := h1 hok
            have HRN := Lib.hid (h2 hok)
            have HOK := Lib.hid hok
            have hlr := lrd_range s
            have HLR := Lib.hid hlr
            clear h1 h2 hok
            have hx := HI3.out.hx (gl + 1) _ (.inr (.inl ⟨rfl, rfl⟩))
            have cg1 := LX.c1 HI3.out
            have fg1 := LX.f HI3.out 1
            have cb0 : w3.cell? ⟨gl + 1, 0, none⟩ = some (.int .u64 (bestTo A i).2.1) := (blk_cell hx.1 0).trans rfl
            have cb1 : w3.cell? ⟨gl + 1, 1, none⟩ = some v := (blk_cell hx.1 1).trans rfl
            have cb2 : w3.cell? ⟨gl + 1, 2, none⟩ = some (.int .i64 ((bestTo A i).2.2.2.1 : Int)) := (blk_cell hx.1 2).trans rfl
            have fb0 := blk_frozen hx.1 0
            have fb1 := blk_frozen hx.1 1
            have fb2 := blk_frozen hx.1 2
            have hlt1 := lt_of_at hx.1
            have hlt0 : gl < w3.heap.size := by omega
            have HX := Lib.hid hx.1
            clear hx hlr
            rcases (show (bestTo A i).1 < 0 ∨ (0 ≤ (bestTo A i).1 ∧ (bestTo A i).2.1 < (lrd s).1) ∨ (0 ≤ (bestTo A i).1 ∧ (lrd s).1 ≤ (bestTo A i).2.1) by omega) with hc | ⟨hc, hc2⟩ | ⟨hc, hc2⟩
            · have HBT := Lib.hid (HBY.out HOK.out (.inl hc))
              clear HBN HBY
              have HI4 := Lib.hid (HI3.out.setBest HGL.out (i : Int) (lrd s).1 ((lrd s).2.2.1 : Int) (.slice A3 n3 c3))
              have HR4 : Hid (Kd.R Kd.string 9 ((((w3.setCell ⟨gl, 1, none⟩ (.int .i64 (i : Int))).setCell ⟨gl + 1, 0, none⟩ (.int .u64 (lrd s).1)).setCell ⟨gl + 1, 1, none⟩ (.slice A3 n3 c3)).setCell ⟨gl + 1, 2, none⟩ (.int .i64 ((lrd s).2.2.1 : Int))) w0.heap.size (fun _ => True) (.slice A3 n3 c3) (lrd s).2.1) := Lib.hid (R_setBest HI3.out HRN.out HW2.out)
              have HB4 := Lib.hid ((((HB3.out.setCell (p := ⟨gl, 1, none⟩) HGW.out (.int .i64 (i : Int))).setCell (p := ⟨gl + 1, 0, none⟩) (Nat.le_succ_of_le HGW.out) (.int .u64 (lrd s).1)).setCell (p := ⟨gl + 1, 1, none⟩) (Nat.le_succ_of_le HGW.out) (.slice A3 n3 c3)).setCell (p := ⟨gl + 1, 2, none⟩) (Nat.le_succ_of_le HGW.out) (.int .i64 ((lrd s).2.2.1 : Int)))
              go_wp2_with fail
              go_region
              go_wp2
              go_roundg (gout - 1)
              case measure => have := HG.out; omega
              case rel => exact ⟨i + 1, .slice A3 n3 c3, by omega, by rw [HBT.out], by go_num, ⟨by have := HG.out; omega⟩, ⟨by rw [HBT.out]; exact (HI4.out.alloc _).drew, below_drew1 (below_alloc' HB4.out _), by rw [HBT.out]; exact Kd.R_below HR4.out (below_drew (below_alloc (Below.refl _ _) _))⟩⟩
            · have HBT := Lib.hid (HBY.out HOK.out (.inr hc2))
              clear HBN HBY
              have HI4 := Lib.hid (HI3.out.setBest HGL.out (i : Int) (lrd s).1 ((lrd s).2.2.1 : Int) (.slice A3 n3 c3))
              have HR4 : Hid (Kd.R Kd.string 9 ((((w3.setCell ⟨gl, 1, none⟩ (.int .i64 (i : Int))).setCell ⟨gl + 1, 0, none⟩ (.int .u64 (lrd s).1)).setCell ⟨gl + 1, 1, none⟩ (.slice A3 n3 c3)).setCell ⟨gl + 1, 2, none⟩ (.int .i64 ((lrd s).2.2.1 : Int))) w0.heap.size (fun _ => True) (.slice A3 n3 c3) (lrd s).2.1) := Lib.hid (R_setBest HI3.out HRN.out HW2.out)
              have HB4 := Lib.hid ((((HB3.out.setCell (p := ⟨gl, 1, none⟩) HGW.out (.int .i64 (i : Int))).setCell (p := ⟨gl + 1, 0, none⟩) (Nat.le_succ_of_le HGW.out) (.int .u64 (lrd s).1)).setCell (p := ⟨gl + 1, 1, none⟩) (Nat.le_succ_of_le HGW.out) (.slice A3 n3 c3)).setCell (p := ⟨gl + 1, 2, none⟩) (Nat.le_succ_of_le HGW.out) (.int .i64 ((lrd s).2.2.1 : Int)))
              go_wp2_with fail
              go_region
              go_wp2
              go_roundg (gout - 1)
              case measure => have := HG.out; omega
              case rel => exact ⟨i + 1, .slice A3 n3 c3, by omega, by rw [HBT.out], by go_num, ⟨by have := HG.out; omega⟩, ⟨by rw [HBT.out]; exact (HI4.out.alloc _).drew, below_drew1 (below_alloc' HB4.out _), by rw [HBT.out]; exact Kd.R_below HR4.out (below_drew (below_alloc (Below.refl _ _) _))⟩⟩
            · have HBT := Lib.hid (HBN.out (by rintro ⟨_, h | h⟩ <;> omega))
              clear HBN HBY
              go_wp2_with fail
              go_roundg (gout - 1)
              case measure => have := HG.out; omega
              case rel => exact ⟨i + 1, v, by omega, by rw [HBT.out], by go_num, ⟨by have := HG.out; omega⟩, ⟨by rw [HBT.out]; exact HI3.out.alloc _, below_alloc' HB3.out _, by rw [HBT.out]; exact Kd.R_below HR3.out (below_alloc (Below.refl _ _) _)⟩⟩
      · subst hlt
        obtain ⟨b, hb⟩ : ∃ b, b = bestTo A 4 := ⟨_, rfl⟩
        have HR : Hid (openR room left false A = if (cutsTo left false A b.1 4).1 ≠ 0 then (cutsTo left false A b.1 4, -1, 0, [])
  else if b.1 < 0 then (layR room (cutsTo left false A b.1 4).2.1 (cutsTo left false A b.1 4).2.2.1 (cutsTo left false A b.1 4).2.2.2 0 1 [], 0, 1, [])
  else if b.2.2.2.1 < b.2.2.2.2 then
    (stepR (cutsTo left false A b.1 4).2.1 (cutsTo left false A b.1 4).2.2.1 (cutsTo left false A b.1 4).2.2.2 b.1 (trimRef b.2.2.2.1) (trimAct b.2.2.2.1), b.1, b.2.1, b.2.2.1)
  else (cutsTo left false A b.1 4, b.1, b.2.1, b.2.2.1)) := Lib.hid (by rw [hb]; exact if_neg (by decide))
        have HNB : Hid (b.1 < 0 → b = (-1, 0, [], 0, 0)) := Lib.hid (by rw [hb]; exact bestTo_neg A 4)
        rw [← hb] at HIo HRo HFA ⊢
        obtain ⟨ar, bg, br, be, bs⟩ := b
        dsimp only at *
        have hfa := HFA.out
        have HBT := Lib.hid hb
        clear hb HG hi4 HFA
        obtain ⟨ha0, ha4, hg0, hg1, hes⟩ := hfa
        go_wp2_with fail
        go_loopg [60] 5 (fun gk v60 wr => ∃ (j : Nat), j ≤ 4 ∧ v60 = .int .i64 (j : Int) ∧ Aside0 (j + gk = 5) ∧ Aside0 ((cutsTo left false A ar j).1 = 0) ∧
          Aside0 ((∃ K V, IsD (LX (BX Y (gl + 1) (hobj bg v (be : Int))) gl g ar 0) w0 wr g room (cutsTo left false A ar j).2.1 (cutsTo left false A ar j).2.2.1 (cutsTo left false A ar j).2.2.2 K V) ∧ Below w0.heap.size w0 wr ∧ Kd.R Kd.string 9 wr w0.heap.size (fun _ => True) v br))
        case atStart => exact ⟨0, by decide, rfl, ⟨rfl⟩, ⟨rfl⟩, ⟨⟨K, V, HIo.out⟩, HBo.out, HRo.out⟩⟩
        case round =>
          obtain ⟨j, hj4, rfl, ⟨hgj⟩, ⟨hz⟩, ⟨⟨K5, V5, hI⟩, hB, hR⟩⟩ := hrel
          have HGJ := Lib.hid hgj
          have HZ := Lib.hid hz
          have HI5 := Lib.hid hI
          have HB5 := Lib.hid hB
          have HR5 := Lib.hid hR
          have cg1 := LX.c1 hI
          clear hgj hz hI hB hR HIo HBo HRo
          have HFC := Lib.hid (cutsTo_fit (down := false) HF.out ar j)
          rcases (show j < 4 ∨ j = 4 by omega) with hlt | hlt
          · have HN1 := Lib.hid (show cutsTo left false A ar (j + 1) = if (cutsTo left false A ar j).1 ≠ 0 then cutsTo left false A ar j
              else if hasR (cutsTo left false A ar j).2.2.2 j = true ∧ (j : Int) ≠ ar then thenCut (cutsTo left false A ar j) j else cutsTo left false A ar j from rfl)
            have HBAD := Lib.hid (fun h => cutsTo_bad (left := left) (down := false) (A := A) (ar := ar) (j + 1) (3 - j) h)
            rw [if_neg (by rw [HZ.out]; decide)] at HN1
            generalize cutsTo left false A ar j = cj at *
            go_wp2_with fail
            refine (has_calls (j : Int) HI5.out).mono ?_
            rintro e w6 ⟨rfl, rfl⟩
            cases hhas : hasR cj.2.2.2 (j : Int) with
            | false =>
              rw [if_neg (by rw [hhas]; simp)] at HN1
              clear hhas
              go_wp2_with fail
              go_roundg (gk - 1)
              case measure => have := HGJ.out; omega
              case rel => exact ⟨j + 1, by omega, by go_num, ⟨by have := HGJ.out; omega⟩, ⟨by rw [HN1.out]; exact HZ.out⟩, ⟨by rw [HN1.out]; exact ⟨K5, V5, HI5.out⟩, HB5.out, HR5.out⟩⟩
            | true =>
              by_cases hja : (j : Int) = ar
              · rw [if_neg (by rw [hja]; simp)] at HN1
                clear hhas
                have hjn : (j : Int) ≥ 0 := by omega
                subst hja
                go_wp2_with fail
                go_roundg (gk - 1)
                case measure => have := HGJ.out; omega
                case rel => exact ⟨j + 1, by omega, by go_num, ⟨by have := HGJ.out; omega⟩, ⟨by rw [HN1.out]; exact HZ.out⟩, ⟨by rw [HN1.out]; exact ⟨K5, V5, HI5.out⟩, HB5.out, HR5.out⟩⟩
              · rw [if_pos ⟨hhas, hja⟩] at HN1
                clear hhas
                go_wp2_with fail
                refine (cut_calls (j : Int) (HI5.out.andRow HR5.out) HB5.out HFC.out.left ⟨by omega, by omega⟩).mono ?_
                have HN2 : Hid (cutsTo left false A ar (j + 1) = stepR cj.2.1 cj.2.2.1 cj.2.2.2 (j : Int) thereRef cutAct) := Lib.hid HN1.out
                clear HN1
                generalize stepR cj.2.1 cj.2.2.1 cj.2.2.2 (j : Int) thereRef cutAct = r7 at *
                rintro e w7 ⟨rfl, ⟨K7, V7, hI7⟩, hB7⟩
                have HI7 := Lib.hid hI7.outRow
                have HR7 := Lib.hid (hI7.rowOut HR5.out)
                have HB7 := Lib.hid hB7
                clear hI7 hB7
                obtain ⟨q7, hq7⟩ : ∃ q7, q7 = r7.1 := ⟨_, rfl⟩
                have HQ7 := Lib.hid hq7
                rw [← hq7]
                clear hq7
                rcases (show q7 = 0 ∨ q7 ≠ 0 by omega) with hz | hz
                · subst hz
                  go_wp2_with fail
                  go_roundg (gk - 1)
                  case measure => have := HGJ.out; omega
                  case rel => exact ⟨j + 1, by omega, by go_num, ⟨by have := HGJ.out; omega⟩, ⟨by rw [HN2.out]; exact HQ7.out.symm⟩, ⟨by rw [HN2.out]; exact ⟨K7, V7, HI7.out⟩, HB7.out, HR7.out⟩⟩
                · have c7 : (q7 == 0) = false := beq_eq_false_iff_ne.mpr hz
                  have c8 : (q7 != 0) = true := bne_iff_ne.mpr hz
                  have HC4 : Hid (cutsTo left false A ar 4 = r7) := Lib.hid (by
                    have h := HBAD.out (by rw [HN2.out, ← HQ7.out]; exact hz)
                    rw [show j + 1 + (3 - j) = 4 by omega, HN2.out] at h
                    exact h)
                  have HRR : Hid (openR room left false A = (r7, -1, 0, [])) := Lib.hid (by rw [HR.out, HC4.out, if_pos (by rw [← HQ7.out]; exact hz)])
                  go_wp2_with fail
                  go_ret3
                  rw [HRR.out]
                  exact .inl ⟨by show r7.1 ≠ 0; rw [← HQ7.out]; exact hz, by rw [HQ7.out]; rfl, ⟨K7, V7, HI7.out.more fun k o hk => HI7.out.hx k o (.inr (.inr hk))⟩, HB7.out⟩
          · subst hlt
            clear HGJ hj4
            rw [if_neg (by rw [HZ.out]; decide)] at HR
            generalize cutsTo left false A ar 4 = c4 at *
            have hx := HI5.out.hx (gl + 1) _ (.inr (.inl ⟨rfl, rfl⟩))
            have fg1 := LX.f HI5.out 1
            have cg2 := LX.c2 HI5.out
            have fg2 := LX.f HI5.out 2
            have cb0 : wr.cell? ⟨gl + 1, 0, none⟩ = some (.int .u64 bg) := (blk_cell hx.1 0).trans rfl
            have cb1 : wr.cell? ⟨gl + 1, 1, none⟩ = some v := (blk_cell hx.1 1).trans rfl
            have cb2 : wr.cell? ⟨gl + 1, 2, none⟩ = some (.int .i64 (be : Int)) := (blk_cell hx.1 2).trans rfl
            have fb0 := blk_frozen hx.1 0
            clear hx
            rcases (show ar < 0 ∨ 0 ≤ ar by omega) with han | han
            · rw [if_pos han] at HR
              have hnb := HNB.out han
              simp only [Prod.mk.injEq] at hnb
              obtain ⟨_, _, hbr, _, _⟩ := hnb
              have HIA : Hid (IsD (LX (fun k o => BX Y (gl + 1) (hobj 1 v (be : Int)) k o ∨ RX wr v k o) gl g 0 0) w0 ((wr.setCell ⟨gl, 1, none⟩ (.int .i64 0)).setCell ⟨gl + 1, 0, none⟩ (.int .u64 1)) g room c4.2.1 c4.2.2.1 c4.2.2.2 K5 V5) := Lib.hid (by
                have h1 := (HI5.out.andRow HR5.out).setIn (k0 := gl) (.inl (.inl ⟨rfl, rfl⟩)) 1 (.int .i64 0)
                have h2 := h1.setIn (k0 := gl + 1) (.inr ⟨by omega, .inl (.inr (.inl ⟨rfl, rfl⟩))⟩) 0 (.int .u64 1)
                have hl := LX.at HI5.out
                have hq := (HI5.out.hx (gl + 1) _ (.inr (.inl ⟨rfl, rfl⟩))).1
                refine h2.more fun k o hk => ?_
                rcases hk with ⟨rfl, rfl⟩ | (⟨rfl, rfl⟩ | hk) | hk
                · exact h2.hx k _ (.inr ⟨by omega, .inl ⟨rfl, rfl⟩⟩)
                · exact h2.hx (gl + 1) _ (.inl ⟨rfl, rfl⟩)
                · have := HGL.out k o hk
                  exact h2.hx k o (.inr ⟨by omega, .inr ⟨by omega, .inl (.inr (.inr hk))⟩⟩)
                · obtain ⟨_, cs, ho, _⟩ := HR5.out
                  have n1 := row_ne' ho hl (by decide) k hk.1
                  have n2 := row_ne' ho hq (by decide) k hk.1
                  exact h2.hx k o (.inr ⟨n2, .inr ⟨n1, .inr hk⟩⟩))
              have HBA := Lib.hid ((HB5.out.setCell (p := ⟨gl, 1, none⟩) HGW.out (.int .i64 0)).setCell (p := ⟨gl + 1, 0, none⟩) (Nat.le_succ_of_le HGW.out) (.int .u64 1))
              subst hbr
              have HRW := Lib.hid HR5.out
              clear HNB HBT
              go_wp2_with fail
              refine (llay_calls 0 1 none 0 [] (fun W _ _ => Kd.C_nil _ _) (Nat.le_refl _) HIA.out HBA.out HFC.out ⟨by decide, by decide⟩ (by decide) (by decide) (Nat.le_trans (layB_nil 1 (by decide)) (by decide)) HRM.out (by decide) (by intro x hx; cases hx)).mono ?_
              have HFL := Lib.hid (layR_fit (down := c4.2.2.1) HFC.out 0 1 [])
              generalize layR room c4.2.1 c4.2.2.1 c4.2.2.2 0 1 [] = r8 at *
              rintro e w8 ⟨rfl, ⟨K8, V8, hI8⟩, hB8⟩
              have HI8 : Hid (IsD (LX (BX Y (gl + 1) (hobj 1 v (be : Int))) gl g 0 0) w0 w8 g room r8.2.1 r8.2.2.1 r8.2.2.2 K8 V8) := Lib.hid (hI8.more fun k o hk => hI8.hx k o (hk.elim .inl fun h => .inr (.inl h)))
              have HR8 : Hid (Kd.R Kd.string 9 w8 w0.heap.size (fun _ => True) v []) := Lib.hid (RX_R HRW.out fun k o hk => (hI8.hx k o (.inr (.inr hk))).1)
              have HB8 := Lib.hid hB8
              clear hI8 hB8 HIA HBA cg1 fg1 cg2 fg2 cb0 cb1 cb2 fb0 HI5 HB5 HR5 HRW
              obtain ⟨q8, hq8⟩ : ∃ q8, q8 = r8.1 := ⟨_, rfl⟩
              have HQ8 := Lib.hid hq8
              rw [← hq8]
              clear hq8
              rcases (show q8 = 0 ∨ q8 ≠ 0 by omega) with hz | hz
              · subst hz
                have cg2 := LX.c2 HI8.out
                have fg2 := LX.f HI8.out 2
                have hx := HI8.out.hx (gl + 1) _ (.inr (.inl ⟨rfl, rfl⟩))
                have cb0 := (blk_cell hx.1 0).trans rfl
                have cb1 := (blk_cell hx.1 1).trans rfl
                replace cb0 := (show _ = some (Value.int .u64 1) from cb0)
                replace cb1 := (show _ = some v from cb1)
                clear hx
                go_wp2_with fail
                go_region
                go_wp2_with fail
                go_ret3
                exact open_end HR.out HQ8.out.symm HI8.out HGL.out HGW.out (by rw [HGLE.out]; exact Nat.le_refl _) HB8.out HR8.out 1
              · have c7 : (q8 == 0) = false := beq_eq_false_iff_ne.mpr hz
                have c8 : (q8 != 0) = true := bne_iff_ne.mpr hz
                go_wp2_with fail
                go_ret3
                rw [HR.out]
                exact .inl ⟨by show r8.1 ≠ 0; rw [← HQ8.out]; exact hz, by rw [HQ8.out]; rfl, ⟨K8, V8, HI8.out.more fun k o hk => HI8.out.hx k o (.inr (.inr hk))⟩, HB8.out⟩
            · rw [if_neg (by omega)] at HR
              rcases (show be < bs ∨ bs ≤ be by omega) with hbs | hbs
              · rw [if_pos hbs] at HR
                have hbs2 : (be : Int) < (bs : Int) := by omega
                have HTR : Hid (∀ m, Calls Try.prog 31 #[.pointer (some ⟨g, 0, none⟩), .int .i64 ar, .int .i64 (be : Int)] (wr.drewN m) fun e w' => e = .returned (.int .i64 (stepR c4.2.1 c4.2.2.1 c4.2.2.2 ar (trimRef (be : Int)) (trimAct (be : Int))).1) ∧ AtD (fun k o => LX (BX Y (gl + 1) (hobj bg v (be : Int))) gl g ar 0 k o ∨ RX wr v k o) w0 w' g room (stepR c4.2.1 c4.2.2.1 c4.2.2.2 ar (trimRef (be : Int)) (trimAct (be : Int)))) := Lib.hid (fun m =>
                  trim_calls (w := wr.drewN m) ar (be : Int) ((HI5.out.andRow HR5.out).move fun _ _ => rfl) (pw_below_drewN HB5.out m) HFC.out.left ⟨by omega, by omega⟩ (by have := HFC.out.used; have := HRM.out; omega))
                have HRW := Lib.hid HR5.out
                generalize stepR c4.2.1 c4.2.2.1 c4.2.2.2 ar (trimRef (be : Int)) (trimAct (be : Int)) = r8 at *
                go_wp2_with fail
                go_region_held3 (fun w' => w'.cell? ⟨gl, 1, none⟩ = some (.int .i64 ar) ∧ w'.cell? ⟨gl + 1, 2, none⟩ = some (.int .i64 (be : Int))) (first | assumption | exact ⟨cg1, cb2⟩ | go_keep)
                  (first | (go_at_call 31; refine (HTR.out 1).mono ?_; rintro e w8 ⟨rfl, hA8⟩; have hH : w8.cell? ⟨gl, 1, none⟩ = some (.int .i64 ar) ∧ w8.cell? ⟨gl + 1, 2, none⟩ = some (.int .i64 (be : Int)) := ⟨(by obtain ⟨⟨K8, V8, hI8⟩, hB8⟩ := hA8; exact LX.c1 hI8.outRow), (by obtain ⟨⟨K8, V8, hI8⟩, hB8⟩ := hA8; exact (blk_cell (hI8.hx (gl + 1) _ (.inl (.inr (.inl ⟨rfl, rfl⟩)))).1 2).trans rfl)⟩))
                obtain ⟨⟨K8, V8, hI8⟩, hB8⟩ := hA8
                have HI8 := Lib.hid hI8.outRow
                have HR8 := Lib.hid (hI8.rowOut HRW.out)
                have HB8 := Lib.hid hB8
                clear hI8 hB8 hH cg1 fg1 cg2 fg2 cb0 cb1 cb2 fb0 HI5 HB5 HR5 HRW HTR
                obtain ⟨q8, hq8⟩ : ∃ q8, q8 = r8.1 := ⟨_, rfl⟩
                have HQ8 := Lib.hid hq8
                rw [← hq8]
                clear hq8
                rcases (show q8 = 0 ∨ q8 ≠ 0 by omega) with hz | hz
                · subst hz
                  have cg2 := LX.c2 HI8.out
                  have fg2 := LX.f HI8.out 2
                  have hx := HI8.out.hx (gl + 1) _ (.inr (.inl ⟨rfl, rfl⟩))
                  have cb0 := (blk_cell hx.1 0).trans rfl
                  have cb1 := (blk_cell hx.1 1).trans rfl
                  replace cb0 := (show _ = some (Value.int .u64 bg) from cb0)
                  replace cb1 := (show _ = some v from cb1)
                  clear hx
                  go_wp2_with fail
                  go_region
                  go_wp2_with fail
                  go_ret3
                  exact open_end HR.out HQ8.out.symm HI8.out HGL.out HGW.out (by rw [HGLE.out]; exact Nat.le_refl _) HB8.out HR8.out 1
                · have c7 : (q8 == 0) = false := beq_eq_false_iff_ne.mpr hz
                  have c8 : (q8 != 0) = true := bne_iff_ne.mpr hz
                  go_wp2_with fail
                  go_ret3
                  rw [HR.out]
                  exact .inl ⟨by show r8.1 ≠ 0; rw [← HQ8.out]; exact hz, by rw [HQ8.out]; rfl, ⟨K8, V8, HI8.out.more fun k o hk => HI8.out.hx k o (.inr (.inr hk))⟩, HB8.out⟩
              · rw [if_neg (by omega)] at HR
                have hbs2 : (bs : Int) ≤ (be : Int) := by omega
                clear cg2 fg2 cb0 cb1
                have cg2 := LX.c2 HI5.out
                have fg2 := LX.f HI5.out 2
                have hx := HI5.out.hx (gl + 1) _ (.inr (.inl ⟨rfl, rfl⟩))
                have cb0 := (blk_cell hx.1 0).trans rfl
                have cb1 := (blk_cell hx.1 1).trans rfl
                replace cb0 := (show _ = some (Value.int .u64 bg) from cb0)
                replace cb1 := (show _ = some v from cb1)
                clear hx
                go_wp2_with fail
                go_region
                go_wp2_with fail
                go_ret3
                exact open_end HR.out HZ.out HI5.out HGL.out HGW.out (by rw [HGLE.out]; exact Nat.le_refl _) HB5.out HR5.out 1
end Go.Proofs.Ytccdmedhkbabpaa
/- What the drum's laws share: one area alone, and that a fall keeps a part. Conditions: those that each theorem names. -/
namespace Go.Proofs.Ytccdmedhkbabpaa
open Go.RowKit Go.Proofs.YtccdmedhkbabpaaW.PrintWords

/-- One area alone. -/
def one (b : ByteArray) (s : Nat) : Nat → Ar := fun i => if i = 0 then some (b, s) else none
theorem cell_lt {w : World} {a : Addr} {v : Value} (h : w.cell? a = some v) : a.block < w.heap.size := by
  rcases Nat.lt_or_ge a.block w.heap.size with h1 | h1
  · exact h1
  · simp [World.cell?, Array.getElem?_eq_none h1] at h
theorem reads_far {w : World} {R : Option Addr} {xs : List Int} (h : ReadsInt w .i64 R xs.length xs) : ∀ ad, R = some ad → 0 < xs.length → ad.block < w.heap.size := by
  intro ad e h0
  obtain ⟨ad', e', hc⟩ := h.at_ 0 (Int.le_refl _) (by omega)
  rw [e] at e'
  injection e' with e'
  subst e'
  exact cell_lt (a := ad) (by simpa [Addr.add] using hc)
theorem cell_below {w w1 : World} (h : Below w.heap.size w w1) {a : Addr} {v : Value} (hc : w.cell? a = some v) : w1.cell? a = some v := (cell_of_heap (h.block _ (cell_lt hc))).trans hc
end Go.Proofs.Ytccdmedhkbabpaa
/- The document's drum as a state: its room, its fuel, whether it is down, its areas; what each of its functions answers and leaves. Conditions: those that each theorem names. -/
namespace Go.Proofs.Ytccdmedhkbabpaa
open Go.RowKit Go.Proofs.YtccdmedhkbabpaaW.PrintWords

/-- The sure and the pending bytes of an area. -/
def suR (a : Ar) : ByteArray := match a with
  | none => ⟨#[]⟩
  | some x => x.1.extract 0 x.2
def peR (a : Ar) : ByteArray := match a with
  | none => ⟨#[]⟩
  | some x => x.1.extract x.2 x.1.size
def rcells (room left : Int) (down : Bool) (A : Nat → Ar) : Array Value :=
  #[.int .i64 room, .int .i64 left, .bool down, .bool (A 0).isSome, .string (suR (A 0)), .string (peR (A 0)), .bool (A 1).isSome, .string (suR (A 1)), .string (peR (A 1)), .bool (A 2).isSome, .string (suR (A 2)), .string (peR (A 2)), .bool (A 3).isSome, .string (suR (A 3)), .string (peR (A 3))]
structure IsR (w0 W : World) (g : Nat) (room left : Int) (down : Bool) (A : Nat → Ar) : Prop where
  hb : W.heap[g]? = some (.cells (rcells room left down A) 58 (0, 0))
  hg : w0.heap.size ≤ g
/-- All but block g is as it was. -/
def KeepG (w W : World) (g : Nat) : Prop := w.heap.size ≤ W.heap.size ∧ ∀ k, k < w.heap.size → k ≠ g → W.heap[k]? = w.heap[k]?
theorem KeepG.refl (w : World) (g : Nat) : KeepG w w g := ⟨Nat.le_refl _, fun _ _ _ => rfl⟩
theorem KeepG.trans {w W1 W2 : World} {g : Nat} (h : KeepG w W1 g) (k : KeepG W1 W2 g) : KeepG w W2 g := ⟨Nat.le_trans h.1 k.1, fun i hi hg => (k.2 i (Nat.lt_of_lt_of_le hi h.1) hg).trans (h.2 i hi hg)⟩
theorem KeepG.set {w W : World} {g : Nat} (h : KeepG w W g) (j : Nat) (x : Value) : KeepG w (W.setCell ⟨g, j, none⟩ x) g := h.trans ⟨by simp [World.setCell], fun k _ hk => Below.heap_setCell W ⟨g, j, none⟩ x k hk⟩
theorem KeepG.alloc {w W : World} {g : Nat} (h : KeepG w W g) (o : Obj) : KeepG w (W.alloc o) g := h.trans ⟨(below_alloc (Below.refl _ _) o).size, fun k hk _ => (below_alloc (Below.refl W.heap.size W) o).block k hk⟩
theorem KeepG.drew {w W : World} {g : Nat} (h : KeepG w W g) : KeepG w W.drew g := h
theorem blk_put {W : World} {g : Nat} {cs : Array Value} {t : TypeId} {fr : Nat × Nat} (h : W.heap[g]? = some (.cells cs t fr)) (j : Nat) (x : Value) : (W.setCell ⟨g, j, none⟩ x).heap[g]? = some (.cells (cs.setIfInBounds j x) t fr) := by
  simp only [World.setCell, Array.getElem?_modify, h]
  simp
section
variable {w0 w w1 : World} {g : Nat} {room left : Int} {down : Bool} {A : Nat → Ar}
theorem IsR.move (h : IsR w0 w g room left down A) (hm : w1.heap[g]? = w.heap[g]?) : IsR w0 w1 g room left down A := ⟨hm.trans h.hb, h.hg⟩
theorem IsR.alloc (h : IsR w0 w g room left down A) (o : Obj) : IsR w0 (w.alloc o) g room left down A := h.move ((below_alloc (Below.refl w.heap.size w) o).block g (lt_of_at h.hb))
theorem IsR.drew (h : IsR w0 w g room left down A) : IsR w0 w.drew g room left down A := h.move rfl
theorem IsR.f (h : IsR w0 w g room left down A) (n : Nat) : w.frozen? ⟨g, n, none⟩ = false := blk_frozen h.hb n
theorem IsR.c0 (h : IsR w0 w g room left down A) : w.cell? ⟨g, 0, none⟩ = some (.int .i64 room) := (blk_cell h.hb 0).trans rfl
theorem IsR.c1 (h : IsR w0 w g room left down A) : w.cell? ⟨g, 1, none⟩ = some (.int .i64 left) := (blk_cell h.hb 1).trans rfl
theorem IsR.c2 (h : IsR w0 w g room left down A) : w.cell? ⟨g, 2, none⟩ = some (.bool down) := (blk_cell h.hb 2).trans rfl
theorem IsR.setLeft (h : IsR w0 w g room left down A) (x : Int) : IsR w0 (w.setCell ⟨g, 1, none⟩ (.int .i64 x)) g room x down A := ⟨(blk_put h.hb 1 _).trans rfl, h.hg⟩
theorem IsR.setDown (h : IsR w0 w g room left down A) (x : Bool) : IsR w0 (w.setCell ⟨g, 2, none⟩ (.bool x)) g room left x A := ⟨(blk_put h.hb 2 _).trans rfl, h.hg⟩
theorem IsR.put (h : IsR w0 w g room left down A) (n : Nat) (hn : n < 4) (a : Ar) (i : Bool) (s p : ByteArray) (hi : i = a.isSome) (hs : s = suR a) (hp : p = peR a) : IsR w0 (((w.setCell ⟨g, 3 + n * 3, none⟩ (.bool i)).setCell ⟨g, 3 + n * 3 + 1, none⟩ (.string s)).setCell ⟨g, 3 + n * 3 + 2, none⟩ (.string p)) g room left down (upd A n a) := by
  subst hi hs hp
  refine ⟨(blk_put (blk_put (blk_put h.hb _ _) _ _) _ _).trans ?_, h.hg⟩
  rcases (show n = 0 ∨ n = 1 ∨ n = 2 ∨ n = 3 by omega) with rfl | rfl | rfl | rfl <;> rfl
end
end Go.Proofs.Ytccdmedhkbabpaa
/- The document's drum: Lay, Cut, Trim, Write, Sync, Read, Used, Has. Conditions: those that each theorem names. -/
namespace Go.Proofs.Ytccdmedhkbabpaa
open Go.RowKit Go.Proofs.YtccdmedhkbabpaaW.PrintWords

section
variable {w0 w w1 : World} {g : Nat} {room left : Int} {down : Bool} {A : Nat → Ar}
end
end Go.Proofs.Ytccdmedhkbabpaa
/- The document's drum: Cut, Trim, Write, Sync, Read, Used, Has, Fall. Conditions: those that each theorem names. -/
namespace Go.Proofs.Ytccdmedhkbabpaa
open Go.RowKit Go.Proofs.YtccdmedhkbabpaaW.PrintWords

section
variable {w0 w w1 : World} {g : Nat} {room left : Int} {down : Bool} {A : Nat → Ar}
theorem IsR.drewN (h : IsR w0 w g room left down A) (m : Nat) : IsR w0 (w.drewN m) g room left down A := h.move rfl
theorem KeepG.drewN {w W : World} {g : Nat} (h : KeepG w W g) (m : Nat) : KeepG w (W.drewN m) g := h

end
end Go.Proofs.Ytccdmedhkbabpaa
/- The document's drum: New, Write, Read, Fall. Conditions: those that each theorem names. -/
namespace Go.Proofs.Ytccdmedhkbabpaa
open Go.RowKit Go.Proofs.YtccdmedhkbabpaaW.PrintWords

section
variable {w0 w w1 : World} {g : Nat} {room left : Int} {down : Bool} {A : Nat → Ar}
end
end Go.Proofs.Ytccdmedhkbabpaa
/- The document's frames, lay and Append. Conditions: those that each theorem names. -/
namespace Go.Proofs.Ytccdmedhkbabpaa
open Go.RowKit Go.Proofs.YtccdmedhkbabpaaW.PrintWords PRd PFr

/-- The document's log. -/
def mobj (gr : Nat) (area gen : Int) : Obj := .cells #[.pointer (some ⟨gr, 0, none⟩), .int .i64 area, .int .u64 gen] 62 (0, 0)
/-- The document's drum and its log: the log's block beside the drum's. -/
structure IsM (w0 W : World) (gr gm : Nat) (room left : Int) (down : Bool) (A : Nat → Ar) (area gen : Int) : Prop where
  d : IsR w0 W gr room left down A
  m : W.heap[gm]? = some (mobj gr area gen)
  g : w0.heap.size ≤ gm
/-- All but two blocks are as they were. -/
def KeepM (w W : World) (gr gm : Nat) : Prop := w.heap.size ≤ W.heap.size ∧ ∀ k, k < w.heap.size → k ≠ gr → k ≠ gm → W.heap[k]? = w.heap[k]?
section
variable {w0 w W w1 : World} {gr gm : Nat} {room left area gen : Int} {down : Bool} {A : Nat → Ar}
theorem KeepM.refl (w : World) (gr gm : Nat) : KeepM w w gr gm := ⟨Nat.le_refl _, fun _ _ _ _ => rfl⟩
theorem KeepM.trans (h : KeepM w W gr gm) (k : KeepM W w1 gr gm) : KeepM w w1 gr gm := ⟨Nat.le_trans h.1 k.1, fun i hi h1 h2 => (k.2 i (Nat.lt_of_lt_of_le hi h.1) h1 h2).trans (h.2 i hi h1 h2)⟩
theorem KeepM.of (h : KeepG w W gr) : KeepM w W gr gm := ⟨h.1, fun k hk h1 _ => h.2 k hk h1⟩
theorem KeepM.below (h : Below w.heap.size w W) : KeepM w W gr gm := ⟨h.size, fun k hk _ _ => h.block k hk⟩
theorem KeepM.set (h : KeepM w W gr gm) (j : Nat) (x : Value) : KeepM w (W.setCell ⟨gm, j, none⟩ x) gr gm := h.trans ⟨by simp [World.setCell], fun k _ _ hk => Below.heap_setCell W ⟨gm, j, none⟩ x k hk⟩
theorem IsM.ne (h : IsM w0 w gr gm room left down A area gen) : gm ≠ gr := blk_ty h.m h.d.hb (by decide)
theorem IsM.lt (h : IsM w0 w gr gm room left down A area gen) : gm < w.heap.size := lt_of_at h.m
theorem IsM.c0 (h : IsM w0 w gr gm room left down A area gen) : w.cell? ⟨gm, 0, none⟩ = some (.pointer (some ⟨gr, 0, none⟩)) := (blk_cell h.m 0).trans rfl
theorem IsM.c1 (h : IsM w0 w gr gm room left down A area gen) : w.cell? ⟨gm, 1, none⟩ = some (.int .i64 area) := (blk_cell h.m 1).trans rfl
theorem IsM.c2 (h : IsM w0 w gr gm room left down A area gen) : w.cell? ⟨gm, 2, none⟩ = some (.int .u64 gen) := (blk_cell h.m 2).trans rfl
theorem IsM.f (h : IsM w0 w gr gm room left down A area gen) (n : Nat) : w.frozen? ⟨gm, n, none⟩ = false := blk_frozen h.m n
theorem IsM.below (h : IsM w0 w gr gm room left down A area gen) (hb : Below w.heap.size w W) : IsM w0 W gr gm room left down A area gen := ⟨h.d.move (hb.block gr (lt_of_at h.d.hb)), (hb.block gm h.lt).trans h.m, h.g⟩
theorem IsM.drewN (h : IsM w0 w gr gm room left down A area gen) (m : Nat) : IsM w0 (w.drewN m) gr gm room left down A area gen := ⟨h.d.move rfl, h.m, h.g⟩
theorem IsM.drum {room' left' : Int} {down' : Bool} {A' : Nat → Ar} (h : IsM w0 w gr gm room left down A area gen) (hk : KeepG w W gr) (hd : IsR w0 W gr room' left' down' A') : IsM w0 W gr gm room' left' down' A' area gen := ⟨hd, (hk.2 gm h.lt h.ne).trans h.m, h.g⟩
end
end Go.Proofs.Ytccdmedhkbabpaa
/- The document's lay and Append. Conditions: those that each theorem names. -/
namespace Go.Proofs.Ytccdmedhkbabpaa
open Go.RowKit Go.Proofs.YtccdmedhkbabpaaW.PrintWords PRd PFr

section
variable {w0 w : World} {gr gm : Nat} {room left area gen : Int} {down : Bool} {A : Nat → Ar}
end
end Go.Proofs.Ytccdmedhkbabpaa
/- The document's Renew. Conditions: those that each theorem names. -/
namespace Go.Proofs.Ytccdmedhkbabpaa
open Go.RowKit Go.Proofs.YtccdmedhkbabpaaW.PrintWords PRd PFr
section
variable {w0 w : World} {gr gm : Nat} {room left area gen : Int} {down : Bool} {A : Nat → Ar}
end
end Go.Proofs.Ytccdmedhkbabpaa
/- The document's Open. Conditions: those that each theorem names. -/
namespace Go.Proofs.Ytccdmedhkbabpaa
open Go.RowKit Go.Proofs.YtccdmedhkbabpaaW.PrintWords PRd PFr
section
variable {w0 w W : World} {gr gm : Nat} {room left area gen : Int} {down : Bool} {A : Nat → Ar}
theorem KeepG.below {g : Nat} (h : KeepG w W g) {w1 : World} (hb : Below W.heap.size W w1) : KeepG w w1 g := h.trans ⟨hb.size, fun k hk _ => hb.block k hk⟩
end
end Go.Proofs.Ytccdmedhkbabpaa
/- What is read of a log's bytes, whole or cut off. No program in sight. -/
namespace Go.Proofs.Ytccdmedhkbabpaa
open Go.RowKit Go.Proofs.YtccdmedhkbabpaaW.PrintWords PRd PFr

/-- A frame that is cut off isn't read. -/
theorem nxt_part (p u v : ByteArray) (hp : p.size ≤ 16384) (h : frm p = u ++ v) (hv : 0 < v.size) : (nxt u).2.2 ≠ 0 := by
  intro he
  obtain ⟨t, e1, e2, e3⟩ := nxt_inv u he
  rw [e1, ByteArray.append_assoc] at h
  have hq := frm_apart _ p _ e2 hp h
  have := congrArg ByteArray.size h
  rw [hq, ByteArray.size_append, ByteArray.size_append] at this
  omega
theorem nxt_none : (nxt ByteArray.empty).2.2 ≠ 0 := by decide
theorem wrp_small {p : ByteArray} (h : p.size ≤ 16384) : (wrp p).1 = frm p := by unfold wrp; rw [if_neg (by omega)]
def rP (r : ByteArray) : ByteArray := (⟨#[82]⟩ : ByteArray) ++ r
theorem recF_eq (s : ByteArray) (h : s.size ≤ 16000) : recF s = frm (rP s) := wrp_small (by rw [ByteArray.size_append]; show 1 + s.size ≤ _; omega)
theorem tag_size (c : UInt8) (r : ByteArray) : ((⟨#[c]⟩ : ByteArray) ++ r).size = 1 + r.size := by rw [ByteArray.size_append]; rfl
theorem tag_bt (c : UInt8) (r : ByteArray) : bt ((⟨#[c]⟩ : ByteArray) ++ r) 0 = (c.toNat : Int) := by
  refine (bt_get _ 0).trans ?_
  rw [bytesOf_append]; rfl
theorem tag_rest (c : UInt8) (r : ByteArray) : ((⟨#[c]⟩ : ByteArray) ++ r).extract 1 ((⟨#[c]⟩ : ByteArray) ++ r).size = r := extract_right _ _ _ _ rfl (by rw [ByteArray.size_append])
theorem cP_ne (r : ByteArray) : cP r ≠ eP := by
  intro h
  have h1 : bt (cP r) 0 = 67 := tag_bt 67 r
  rw [h] at h1
  exact absurd h1 (by decide)
/-- A log's payloads: its generation, the records of its beginning, the end mark, the records behind. -/
def logP (g : Int) (a b : List ByteArray) : List ByteArray := gP g :: (a.map cP ++ (eP :: b.map rP))
def logB (g : Int) (a b : List ByteArray) : ByteArray := frs (logP g a b)
def Small (l : List ByteArray) : Prop := ∀ x ∈ l, x.size ≤ 16000
theorem gP_size (g : Int) (h : g ≤ 18446744073709551615) : (gP g).size ≤ 10 := by
  have := (encB_size h).2
  unfold gP; rw [tag_size]; omega
theorem logP_le {g : Int} {a b : List ByteArray} (hg : g ≤ 18446744073709551615) (ha : Small a) (hb : Small b) : ∀ p ∈ logP g a b, p.size ≤ 16384 := by
  intro p hp
  unfold logP at hp
  rw [List.mem_cons, List.mem_append, List.mem_cons, List.mem_map, List.mem_map] at hp
  rcases hp with rfl | ⟨x, hx, rfl⟩ | rfl | ⟨x, hx, rfl⟩
  · have := gP_size g hg; omega
  · have := ha x hx; unfold cP; rw [tag_size]; omega
  · decide
  · have := hb x hx; unfold rP; rw [tag_size]; omega
theorem layB_log (g : Int) (a : List ByteArray) : layB g a = logB g a [] := by
  unfold layB logB layTo logP
  rw [List.take_length, List.cons_append]; rfl
theorem logB_more (g : Int) (a b : List ByteArray) (s : ByteArray) : logB g a (b ++ [s]) = logB g a b ++ recF s := by
  have e : logP g a (b ++ [s]) = logP g a b ++ [rP s] := by
    unfold logP; rw [List.map_append, List.cons_append, List.append_assoc, List.cons_append]; rfl
  unfold logB
  rw [e, frs_snoc]; rfl
theorem ext_skip (s f t : ByteArray) (i : Nat) (h : s.extract i s.size = f ++ t) (hi : i ≤ s.size) : s.extract (i + f.size) s.size = t := by
  have hs := congrArg ByteArray.size h
  rw [ByteArray.size_extract, ByteArray.size_append] at hs
  have e := congrArg (fun x : ByteArray => x.extract f.size x.size) h
  rw [extract_right f t f.size (f ++ t).size rfl (by rw [ByteArray.size_append])] at e
  rw [← e, ByteArray.extract_extract]
  congr 1
  rw [ByteArray.size_extract]; omega
theorem ext_l (a b : ByteArray) (n : Nat) (h : n ≤ a.size) : (a ++ b).extract 0 n = a.extract 0 n := by
  apply bytes_ext
  rw [bytesOf_extract, bytesOf_extract, bytesOf_append, List.take_append_of_le_length (by rw [bytesOf_length]; exact h)]
/-- The records of the beginning are read. -/
theorem lsc_cs (s : ByteArray) : ∀ (a l : List ByteArray) (i k : Nat) (t : ByteArray), i ≤ s.size → Small a → s.extract i s.size = frs (a.map cP) ++ t →
    lscN (a.length + k) s false l i = lscN k s false (l ++ a) (i + (frs (a.map cP)).size) ∧ i + (frs (a.map cP)).size ≤ s.size ∧ s.extract (i + (frs (a.map cP)).size) s.size = t := by
  intro a
  induction a with
  | nil =>
    intro l i k t hi _ h
    have e : frs (([] : List ByteArray).map cP) = ByteArray.empty := rfl
    rw [e, ByteArray.empty_append] at h
    rw [e, List.append_nil, List.length_nil, Nat.zero_add]
    exact ⟨rfl, hi, h⟩
  | cons x a ih =>
    intro l i k t hi hsm h
    have hx : (cP x).size ≤ 16384 := by have := hsm x (List.mem_cons_self ..); unfold cP; rw [tag_size]; omega
    have e : frs ((x :: a).map cP) = frm (cP x) ++ frs (a.map cP) := by
      show (wrp (cP x)).1 ++ _ = _
      rw [wrp_small hx]
    rw [e, ByteArray.append_assoc] at h
    have hV := nxt_frm (cP x) (frs (a.map cP) ++ t) hx
    rw [← h] at hV
    have hsz := congrArg ByteArray.size h
    rw [ByteArray.size_extract, ByteArray.size_append] at hsz
    have h2 := ext_skip s _ _ i h hi
    have h3 := lsc_more (k := a.length + k) (d := false) (l := l) hV (by unfold cP; rw [tag_size]; omega) (.inr (cP_ne x)) (tag_bt 67 x)
    obtain ⟨i1, i2, i3⟩ := ih (l ++ [(cP x).extract 1 (cP x).size]) (i + (frm (cP x)).size) k t (by omega) (fun y hy => hsm y (List.mem_cons_of_mem _ hy)) h2
    rw [show (cP x).extract 1 (cP x).size = x from tag_rest 67 x] at h3 i1
    refine ⟨?_, ?_, ?_⟩
    · rw [List.length_cons, show a.length + 1 + k = a.length + k + 1 by omega, h3, i1, e, ByteArray.size_append, List.append_assoc, Nat.add_assoc]; rfl
    · rw [e, ByteArray.size_append]; omega
    · rw [e, ByteArray.size_append, ← Nat.add_assoc]; exact i3
theorem lsc_rs (s : ByteArray) : ∀ (a l : List ByteArray) (i k : Nat) (t : ByteArray), i ≤ s.size → Small a → s.extract i s.size = frs (a.map rP) ++ t →
    lscN (a.length + k) s true l i = lscN k s true (l ++ a) (i + (frs (a.map rP)).size) ∧ i + (frs (a.map rP)).size ≤ s.size ∧ s.extract (i + (frs (a.map rP)).size) s.size = t := by
  intro a
  induction a with
  | nil =>
    intro l i k t hi _ h
    have e : frs (([] : List ByteArray).map rP) = ByteArray.empty := rfl
    rw [e, ByteArray.empty_append] at h
    rw [e, List.append_nil, List.length_nil, Nat.zero_add]
    exact ⟨rfl, hi, h⟩
  | cons x a ih =>
    intro l i k t hi hsm h
    have hx : (rP x).size ≤ 16384 := by have := hsm x (List.mem_cons_self ..); unfold rP; rw [tag_size]; omega
    have e : frs ((x :: a).map rP) = frm (rP x) ++ frs (a.map rP) := by
      show (wrp (rP x)).1 ++ _ = _
      rw [wrp_small hx]
    rw [e, ByteArray.append_assoc] at h
    have hV := nxt_frm (rP x) (frs (a.map rP) ++ t) hx
    rw [← h] at hV
    have hsz := congrArg ByteArray.size h
    rw [ByteArray.size_extract, ByteArray.size_append] at hsz
    have h2 := ext_skip s _ _ i h hi
    have h3 := lsc_more (k := a.length + k) (d := true) (l := l) hV (by unfold rP; rw [tag_size]; omega) (.inl rfl) (tag_bt 82 x)
    obtain ⟨i1, i2, i3⟩ := ih (l ++ [(rP x).extract 1 (rP x).size]) (i + (frm (rP x)).size) k t (by omega) (fun y hy => hsm y (List.mem_cons_of_mem _ hy)) h2
    rw [show (rP x).extract 1 (rP x).size = x from tag_rest 82 x] at h3 i1
    refine ⟨?_, ?_, ?_⟩
    · rw [List.length_cons, show a.length + 1 + k = a.length + k + 1 by omega, h3, i1, e, ByteArray.size_append, List.append_assoc, Nat.add_assoc]; rfl
    · rw [e, ByteArray.size_append]; omega
    · rw [e, ByteArray.size_append, ← Nat.add_assoc]; exact i3
/-- A log's first frame is read. -/
theorem hdL_log (g : Int) (h0 : 0 ≤ g) (h1 : g ≤ 18446744073709551615) (t : ByteArray) : hdL (frm (gP g) ++ t) = (g, ((frm (gP g)).size : Int), true) := by
  have hV := nxt_frm (gP g) t (by have := gP_size g h1; omega)
  have hP : Lib.hasPrefix (gP g).data.toList [71] = true := (prefix_G _).2 ⟨by unfold gP; rw [tag_size]; omega, tag_bt 71 _⟩
  have hr := rdNum_enc g 18446744073709551615 ByteArray.empty h0 h1 h1
  rw [ByteArray.append_empty] at hr
  unfold hdL
  rw [hV]
  dsimp only
  rw [if_neg (by rw [hP]; simp), show (gP g).extract 1 (gP g).size = encB g from tag_rest 71 _, hr]
  dsimp only
  have he : endE ByteArray.empty 0 = 0 := by unfold endE; rw [if_pos rfl, if_pos ((toList_nil _).2 rfl)]
  rw [he]; rfl
theorem frs_length (l : List ByteArray) (hl : ∀ p ∈ l, p.size ≤ 16384) : l.length ≤ (frs l).size := by
  induction l with
  | nil => exact Nat.zero_le _
  | cons p l ih =>
    have h := ih fun q hq => hl q (List.mem_cons_of_mem _ hq)
    have e : frs (p :: l) = frm p ++ frs l := by
      show (wrp p).1 ++ _ = _
      rw [wrp_small (hl p (List.mem_cons_self ..))]
    rw [e, ByteArray.size_append, frm_size, List.length_cons]
    omega
theorem frs_cons {p : ByteArray} (l : List ByteArray) (hp : p.size ≤ 16384) : frs (p :: l) = frm p ++ frs l := by
  show (wrp p).1 ++ _ = _
  rw [wrp_small hp]
theorem logB_form {g : Int} (h1 : g ≤ 18446744073709551615) (a b : List ByteArray) : logB g a b = frm (gP g) ++ (frs (a.map cP) ++ (frm eP ++ frs (b.map rP))) := by
  unfold logB logP
  rw [frs_cons _ (by have := gP_size g h1; omega), frs_append, frs_cons _ (by decide)]
theorem lsc_mark (s : ByteArray) (l : List ByteArray) (i k : Nat) (t : ByteArray) (hi : i ≤ s.size) (h : s.extract i s.size = frm eP ++ t) :
    lscN (k + 1) s false l i = lscN k s true l (i + (frm eP).size) ∧ i + (frm eP).size ≤ s.size ∧ s.extract (i + (frm eP).size) s.size = t := by
  have hV := nxt_frm eP t (by decide)
  rw [← h] at hV
  have hsz := congrArg ByteArray.size h
  rw [ByteArray.size_extract, ByteArray.size_append] at hsz
  exact ⟨lsc_end hV rfl, by omega, ext_skip s _ _ i h hi⟩
/-- A whole log is read, and of what stands behind it nothing. -/
theorem lrd_log {g : Int} (h0 : 0 ≤ g) (h1 : g ≤ 18446744073709551615) {a b : List ByteArray} (ha : Small a) (hb : Small b) {u : ByteArray} (hu : (nxt u).2.2 ≠ 0) :
    lrd (logB g a b ++ u) = (g, a ++ b, (logB g a b).size, true) := by
  obtain ⟨s, hs⟩ : ∃ s, s = logB g a b ++ u := ⟨_, rfl⟩
  rw [← hs]
  have hform := hs
  rw [logB_form h1, ByteArray.append_assoc] at hform
  have hH : hdL s = (g, ((frm (gP g)).size : Int), true) := by rw [hform]; exact hdL_log g h0 h1 _
  have e1 : s.extract (frm (gP g)).size s.size = frs (a.map cP) ++ ((frm eP ++ frs (b.map rP)) ++ u) := by
    rw [hform]
    rw [extract_right _ _ _ _ rfl (by rw [ByteArray.size_append]), ByteArray.append_assoc]
  have hlen : s.size = (frm (gP g)).size + ((frs (a.map cP)).size + ((frm eP).size + (frs (b.map rP)).size) + u.size) := by
    rw [hform, ByteArray.size_append, ByteArray.size_append, ByteArray.size_append, ByteArray.size_append]
  have la := frs_length (a.map cP) (fun p hp => logP_le h1 ha hb p (by unfold logP; exact List.mem_cons_of_mem _ (List.mem_append_left _ hp)))
  have lb := frs_length (b.map rP) (fun p hp => logP_le h1 ha hb p (by unfold logP; exact List.mem_cons_of_mem _ (List.mem_append_right _ (List.mem_cons_of_mem _ hp))))
  rw [List.length_map] at la lb
  have hG := frm_size (gP g)
  have hE := frm_size eP
  obtain ⟨k, hk⟩ : ∃ k, s.size + 1 = a.length + ((b.length + (k + 1)) + 1) := ⟨s.size - 1 - a.length - b.length, by omega⟩
  obtain ⟨c1, c2, c3⟩ := lsc_cs s a [] (frm (gP g)).size ((b.length + (k + 1)) + 1) _ (by omega) ha e1
  rw [ByteArray.append_assoc] at c3
  obtain ⟨m1, m2, m3⟩ := lsc_mark s ([] ++ a) _ (b.length + (k + 1)) _ c2 c3
  obtain ⟨r1, r2, r3⟩ := lsc_rs s b ([] ++ a) _ (k + 1) _ m2 hb m3
  have hsc : lsc s (frm (gP g)).size = (true, a ++ b, (logB g a b).size) := by
    unfold lsc
    rw [hk, c1, m1, r1]
    obtain ⟨⟨p, m, er⟩, hV⟩ : ∃ x, nxt u = x := ⟨_, rfl⟩
    rw [hV] at hu
    rw [← r3] at hV
    rw [lsc_stop hV (.inl hu), List.nil_append, logB_form h1]
    simp only [ByteArray.size_append, Nat.add_assoc]
  unfold lrd
  rw [hH]
  dsimp only
  rw [Int.toNat_natCast, hsc, if_pos ⟨rfl, rfl⟩]
/-- Of a text that is cut off anywhere so many frames are whole, and then comes a part of the next one. -/
theorem prefix_split (ps : List ByteArray) (hl : ∀ p ∈ ps, p.size ≤ 16384) : ∀ x y : ByteArray, frs ps = x ++ y → ∃ (n : Nat) (u : ByteArray), n ≤ ps.length ∧ x = frs (ps.take n) ++ u ∧ (nxt u).2.2 ≠ 0 ∧ (n = ps.length → u = ByteArray.empty) := by
  induction ps with
  | nil =>
    intro x y h
    have hs := congrArg ByteArray.size h
    rw [ByteArray.size_append] at hs
    have hx : x = ByteArray.empty := by
      have h0 : x.size = 0 := by have : (frs []).size = 0 := rfl; omega
      apply bytes_ext
      have := bytesOf_length x
      rw [h0] at this
      rw [List.eq_nil_of_length_eq_zero this]; rfl
    exact ⟨0, ByteArray.empty, Nat.le_refl _, by rw [hx]; rfl, nxt_none, fun _ => rfl⟩
  | cons p ps ih =>
    intro x y h
    have hp := hl p (List.mem_cons_self ..)
    rw [frs_cons _ hp] at h
    rcases (show x.size < (frm p).size ∨ (frm p).size ≤ x.size by omega) with hlt | hge
    · refine ⟨0, x, Nat.zero_le _, by show x = ByteArray.empty ++ x; rw [ByteArray.empty_append], ?_, fun h => by simp at h⟩
      have e : frm p = x ++ (frm p).extract x.size (frm p).size := by
        have h3 := congrArg (fun z : ByteArray => z.extract 0 x.size) h
        rw [ext_l _ _ _ (by omega), ext_l _ _ _ (Nat.le_refl _), ByteArray.extract_zero_size] at h3
        conv => lhs; rw [extract_both (frm p) x.size, h3]
      exact nxt_part p x _ hp e (by rw [ByteArray.size_extract]; omega)
    · have h3 : x = frm p ++ x.extract (frm p).size x.size := by
        have h4 := congrArg (fun z : ByteArray => z.extract 0 (frm p).size) h
        rw [ext_l _ _ _ (Nat.le_refl _), ByteArray.extract_zero_size, ext_l _ _ _ hge] at h4
        conv => lhs; rw [extract_both x (frm p).size, ← h4]
      obtain ⟨z, hz⟩ : ∃ z, z = x.extract (frm p).size x.size := ⟨_, rfl⟩
      rw [← hz] at h3
      rw [h3, ByteArray.append_assoc] at h
      have h6 := append_cancel _ _ _ h
      obtain ⟨n, u, i1, i2, i3, i4⟩ := ih (fun q hq => hl q (List.mem_cons_of_mem _ hq)) z y h6
      refine ⟨n + 1, u, by simp; omega, ?_, i3, fun hn => i4 (by simp at hn; exact hn)⟩
      rw [h3, i2, List.take_succ_cons, frs_cons _ hp, ByteArray.append_assoc]
/-- A new log that isn't whole is no log. -/
theorem lrd_part {g : Int} (h0 : 0 ≤ g) (h1 : g ≤ 18446744073709551615) {a : List ByteArray} (ha : Small a) {x y : ByteArray} (h : logB g a [] = x ++ y) : x = logB g a [] ∨ (lrd x).2.2.2 = false := by
  obtain ⟨n, u, i1, i2, i3, i4⟩ := prefix_split (logP g a []) (logP_le h1 ha (fun _ h => by cases h)) x y h
  have hlen : (logP g a []).length = a.length + 2 := by unfold logP; simp
  rcases (show n = a.length + 2 ∨ n = 0 ∨ (1 ≤ n ∧ n ≤ a.length + 1) by omega) with hn | hn | ⟨hn1, hn2⟩
  · left
    rw [i2, i4 (by rw [hlen]; exact hn), ByteArray.append_empty, List.take_of_length_le (by omega)]; rfl
  · right
    subst hn
    have e : x = u := by rw [i2]; show ByteArray.empty ++ u = u; rw [ByteArray.empty_append]
    rw [e]
    have hH : hdL u = (0, 0, false) := if_pos (.inl i3)
    unfold lrd
    rw [hH]; rfl
  · right
    obtain ⟨m, rfl⟩ : ∃ m, n = m + 1 := ⟨n - 1, by omega⟩
    have ht : (logP g a []).take (m + 1) = gP g :: (a.take m).map cP := by
      unfold logP
      rw [List.take_succ_cons, List.take_append_of_le_length (by rw [List.length_map]; omega), List.map_take]
    have hG : (gP g).size ≤ 16384 := by have := gP_size g h1; omega
    rw [ht, frs_cons _ hG, ByteArray.append_assoc] at i2
    have hH : hdL x = (g, ((frm (gP g)).size : Int), true) := by rw [i2]; exact hdL_log g h0 h1 _
    have e1 : x.extract (frm (gP g)).size x.size = frs ((a.take m).map cP) ++ u := by
      rw [i2]; exact extract_right _ _ _ _ rfl (by rw [ByteArray.size_append])
    have hlx : x.size = (frm (gP g)).size + ((frs ((a.take m).map cP)).size + u.size) := by rw [i2, ByteArray.size_append, ByteArray.size_append]
    have hsm : Small (a.take m) := fun z hz => ha z (List.mem_of_mem_take hz)
    have la := frs_length ((a.take m).map cP) (by
      intro p hp
      obtain ⟨z, hz, rfl⟩ := List.mem_map.1 hp
      have := hsm z hz
      unfold cP; rw [tag_size]; omega)
    rw [List.length_map] at la
    have hg5 := frm_size (gP g)
    obtain ⟨k, hk⟩ : ∃ k, x.size + 1 = (a.take m).length + (k + 1) := ⟨x.size - (a.take m).length, by omega⟩
    obtain ⟨c1, c2, c3⟩ := lsc_cs x (a.take m) [] (frm (gP g)).size (k + 1) _ (by omega) hsm e1
    have hsc : (lsc x (frm (gP g)).size).1 = false := by
      unfold lsc
      rw [hk, c1]
      obtain ⟨⟨p, q, er⟩, hV⟩ : ∃ z, nxt u = z := ⟨_, rfl⟩
      rw [hV] at i3
      rw [← c3] at hV
      rw [lsc_stop hV (.inl i3)]
    unfold lrd
    rw [hH]
    dsimp only
    rw [Int.toNat_natCast, hsc, if_neg (by simp)]
end Go.Proofs.Ytccdmedhkbabpaa
/- A log on its drum: what is appended, renewed, and what falls leave of it. No program in sight. -/
namespace Go.Proofs.Ytccdmedhkbabpaa
open Go.RowKit Go.Proofs.YtccdmedhkbabpaaW.PrintWords PRd PFr

/-- A log that lies whole and sure in one area; no other area is there. -/
structure Up (A : Nat → Ar) (ar : Nat) (g : Int) (rec : List ByteArray) : Prop where
  h4 : ar < 4
  sm : Small rec
  g0 : 0 ≤ g
  at_ : ∃ a b, rec = a ++ b ∧ A ar = some (logB g a b, (logB g a b).size)
  no : ∀ i, i < 4 → i ≠ ar → A i = none
theorem usedTo_one {A : Nat → Ar} {ar : Nat} (h : ar < 4) (hn : ∀ i, i < 4 → i ≠ ar → A i = none) : usedTo A 4 = sz (A ar) := by
  have hz : ∀ i, i < 4 → i ≠ ar → sz (A i) = 0 := fun i h1 h2 => by rw [hn i h1 h2]; rfl
  have e : usedTo A 4 = 0 + sz (A 0) + sz (A 1) + sz (A 2) + sz (A 3) := rfl
  rw [e]
  rcases (show ar = 0 ∨ ar = 1 ∨ ar = 2 ∨ ar = 3 by omega) with rfl | rfl | rfl | rfl
  · rw [hz 1 (by decide) (by decide), hz 2 (by decide) (by decide), hz 3 (by decide) (by decide)]; omega
  · rw [hz 0 (by decide) (by decide), hz 2 (by decide) (by decide), hz 3 (by decide) (by decide)]; omega
  · rw [hz 0 (by decide) (by decide), hz 1 (by decide) (by decide), hz 3 (by decide) (by decide)]; omega
  · rw [hz 0 (by decide) (by decide), hz 1 (by decide) (by decide), hz 2 (by decide) (by decide)]; omega
/-- A step that nothing is in the way of. -/
theorem step_ok (A : Nat → Ar) (n : Nat) (hn : n < 4) (refuse : Ar → Int) (act : Ar → Ar) (left : Int) (hl : left ≠ 0) (h : refuse (A n) = 0) : stepR left false A (n : Int) refuse act = (0, max (left - 1) (-1), false, upd A n (act (A n))) := by
  unfold stepR
  rw [if_neg (by decide), if_neg (by omega), Int.toNat_natCast, if_neg (by omega), if_neg hl]
theorem step_out (A : Nat → Ar) (n : Nat) (hn : n < 4) (refuse : Ar → Int) (act : Ar → Ar) (h : refuse (A n) = 0) : stepR 0 false A (n : Int) refuse act = (11, 0, true, A) := by
  unfold stepR
  rw [if_neg (by decide), if_neg (by omega), Int.toNat_natCast, if_neg (by omega), if_pos rfl]
theorem step_no (A : Nat → Ar) (n : Nat) (hn : n < 4) (refuse : Ar → Int) (act : Ar → Ar) (left : Int) (h : refuse (A n) ≠ 0) : stepR left false A (n : Int) refuse act = (refuse (A n), left, false, A) := by
  unfold stepR
  rw [if_neg (by decide), if_neg (by omega), Int.toNat_natCast, if_pos h]
theorem best_pick {B : Nat → Ar} {ar : Nat} {g : Int} {a b : List ByteArray} {u : ByteArray} {s : Nat} (h4 : ar < 4) (h0 : 0 ≤ g) (h1 : g ≤ 18446744073709551615) (ha : Small a) (hb : Small b) (hu : (nxt u).2.2 ≠ 0)
    (hB : B ar = some (logB g a b ++ u, s)) (hO : ∀ i, i < 4 → i ≠ ar → B i = none ∨ ∃ x s', B i = some (x, s') ∧ ((lrd x).2.2.2 = false ∨ (lrd x).1 < g)) :
    ∀ i, i ≤ 4 → (i ≤ ar → (bestTo B i).1 < 0 ∨ (bestTo B i).2.1 < g) ∧ (ar < i → bestTo B i = ((ar : Int), g, a ++ b, (logB g a b).size, (logB g a b ++ u).size)) := by
  intro i
  induction i with
  | zero => exact fun _ => ⟨fun _ => .inl (by show (-1 : Int) < 0; decide), fun h => absurd h (by omega)⟩
  | succ i ih =>
    intro hi
    obtain ⟨ih1, ih2⟩ := ih (by omega)
    have hL := lrd_log h0 h1 ha hb hu
    rcases (show i < ar ∨ i = ar ∨ ar < i by omega) with hlt | heq | hgt
    · refine ⟨fun _ => ?_, fun h => absurd h (by omega)⟩
      rcases hO i (by omega) (by omega) with hn | ⟨x, s', hx, hc⟩
      · rw [bestTo_none hn]; exact ih1 (by omega)
      · by_cases hp : (lrd x).2.2.2 = true ∧ ((bestTo B i).1 < 0 ∨ (bestTo B i).2.1 < (lrd x).1)
        · rw [bestTo_yes hx hp.1 hp.2]
          rcases hc with hc | hc
          · rw [hp.1] at hc; cases hc
          · exact .inr hc
        · rw [bestTo_no hx hp]; exact ih1 (by omega)
    · subst heq
      refine ⟨fun h => absurd h (by omega), fun _ => ?_⟩
      have e1 : (lrd (logB g a b ++ u)).2.2.2 = true := by rw [hL]
      have e2 : (bestTo B i).1 < 0 ∨ (bestTo B i).2.1 < (lrd (logB g a b ++ u)).1 := by rw [hL]; exact ih1 (Nat.le_refl _)
      rw [bestTo_yes hB e1 e2, hL]
    · refine ⟨fun h => absurd h (by omega), fun _ => ?_⟩
      rcases hO i (by omega) (by omega) with hn | ⟨x, s', hx, hc⟩
      · rw [bestTo_none hn]; exact ih2 hgt
      · have hp : ¬ ((lrd x).2.2.2 = true ∧ ((bestTo B i).1 < 0 ∨ (bestTo B i).2.1 < (lrd x).1)) := by
          rw [ih2 hgt]
          rintro ⟨p1, p2⟩
          rcases hc with hc | hc
          · rw [p1] at hc; cases hc
          · dsimp only at p2; omega
        rw [bestTo_no hx hp]; exact ih2 hgt
theorem cuts_all (B : Nat → Ar) (ar : Nat) : ∀ i, i ≤ 4 → ∃ C, cutsTo (-1) false B (ar : Int) i = (0, -1, false, C) ∧ ∀ j, j < 4 → C j = if j < i ∧ j ≠ ar then none else B j := by
  intro i
  induction i with
  | zero => exact fun _ => ⟨B, rfl, fun j _ => by rw [if_neg (by omega)]⟩
  | succ i ih =>
    intro hi
    obtain ⟨C, h1, h2⟩ := ih (by omega)
    have e : cutsTo (-1) false B (ar : Int) (i + 1) = if (cutsTo (-1) false B (ar : Int) i).1 ≠ 0 then cutsTo (-1) false B (ar : Int) i
      else if hasR (cutsTo (-1) false B (ar : Int) i).2.2.2 i = true ∧ (i : Int) ≠ (ar : Int) then thenCut (cutsTo (-1) false B (ar : Int) i) i else cutsTo (-1) false B (ar : Int) i := rfl
    rw [e, h1, if_neg (fun h => h rfl)]
    dsimp only
    rw [hasR_nat C i (by omega)]
    by_cases hc : (C i).isSome = true ∧ (i : Int) ≠ (ar : Int)
    · rw [if_pos hc]
      have hs : thenCut (0, -1, false, C) (i : Int) = (0, -1, false, upd C i none) :=
        step_ok C i (by omega) thereRef cutAct (-1) (by decide) (by unfold thereRef; rw [if_pos hc.1])
      refine ⟨_, hs, fun j hj => ?_⟩
      by_cases hji : j = i
      · subst hji; rw [upd_at, if_pos ⟨by omega, by omega⟩]
      · rw [upd_ne _ _ hji, h2 j hj]
        by_cases hx : j < i ∧ j ≠ ar
        · rw [if_pos hx, if_pos ⟨by omega, hx.2⟩]
        · rw [if_neg hx, if_neg (by omega)]
    · rw [if_neg hc]
      refine ⟨C, rfl, fun j hj => ?_⟩
      by_cases hji : j = i
      · subst hji
        rw [h2 j hj, if_neg (by omega)]
        by_cases hja : j = ar
        · rw [if_neg (by omega)]
        · rw [if_pos ⟨by omega, hja⟩]
          have hn : ¬ (C j).isSome = true := fun h => hc ⟨h, by omega⟩
          rw [h2 j hj, if_neg (by omega)] at hn
          cases hb : B j with
          | none => rfl
          | some x => rw [hb] at hn; exact absurd rfl hn
      · rw [h2 j hj]
        by_cases hx : j < i ∧ j ≠ ar
        · rw [if_pos hx, if_pos ⟨by omega, hx.2⟩]
        · rw [if_neg hx, if_neg (by omega)]
/-- The log is opened, whatever else lies about. -/
theorem open_law {room : Int} {B : Nat → Ar} {ar : Nat} {g : Int} {a b : List ByteArray} {u : ByteArray} (h4 : ar < 4) (h0 : 0 ≤ g) (h1 : g ≤ 18446744073709551615) (ha : Small a) (hb : Small b) (hu : (nxt u).2.2 ≠ 0)
    (hB : B ar = some (logB g a b ++ u, (logB g a b ++ u).size)) (hO : ∀ i, i < 4 → i ≠ ar → B i = none ∨ ∃ x s', B i = some (x, s') ∧ ((lrd x).2.2.2 = false ∨ (lrd x).1 < g)) :
    ∃ B', openR room (-1) false B = ((0, -1, false, B'), (ar : Int), g, a ++ b) ∧ Up B' ar g (a ++ b) ∧ B' ar = some (logB g a b, (logB g a b).size) := by
  have hbest := (best_pick h4 h0 h1 ha hb hu hB hO 4 (Nat.le_refl _)).2 h4
  obtain ⟨C, hc1, hc2⟩ := cuts_all B ar 4 (Nat.le_refl _)
  have hno : ∀ i, i < 4 → i ≠ ar → C i = none := fun i hi hne => by rw [hc2 i hi, if_pos ⟨hi, hne⟩]
  have hCa : C ar = B ar := by rw [hc2 ar h4, if_neg (by omega)]
  have hsm : Small (a ++ b) := fun x hx => (List.mem_append.1 hx).elim (ha x) (hb x)
  have e : openR room (-1) false B = if (logB g a b).size < (logB g a b ++ u).size then (stepR (-1) false C (ar : Int) (trimRef ((logB g a b).size : Int)) (trimAct ((logB g a b).size : Int)), (ar : Int), g, a ++ b) else ((0, -1, false, C), (ar : Int), g, a ++ b) := by
    unfold openR
    rw [if_neg (by decide), hbest]
    dsimp only
    rw [hc1, if_neg (fun h => h rfl), if_neg (by omega)]
  rw [e]
  by_cases hs : (logB g a b).size < (logB g a b ++ u).size
  · rw [if_pos hs]
    have hst := step_ok C ar h4 (trimRef ((logB g a b).size : Int)) (trimAct ((logB g a b).size : Int)) (-1) (by decide) (by rw [hCa, hB]; unfold trimRef; exact (if_pos rfl).trans (if_pos (by omega)))
    have hta : trimAct ((logB g a b).size : Int) (C ar) = some (logB g a b, (logB g a b).size) := by
      rw [hCa, hB]
      have em : (min ((logB g a b).size : Int) ((logB g a b ++ u).size : Int)).toNat = (logB g a b).size := by omega
      show some ((logB g a b ++ u).extract 0 _, _) = _
      rw [em, ext_l _ _ _ (Nat.le_refl _), ByteArray.extract_zero_size]
    rw [hst, hta]
    refine ⟨_, rfl, ⟨h4, hsm, h0, ⟨a, b, rfl, upd_at _ _ _⟩, fun i hi hne => ?_⟩, upd_at _ _ _⟩
    rw [upd_ne _ _ hne]; exact hno i hi hne
  · rw [if_neg hs]
    have hu0 : u = ByteArray.empty := by
      rw [ByteArray.size_append] at hs
      apply bytes_ext
      have := bytesOf_length u
      rw [show u.size = 0 by omega] at this
      rw [List.eq_nil_of_length_eq_zero this]; rfl
    have hCB : C ar = some (logB g a b, (logB g a b).size) := by rw [hCa, hB, hu0, ByteArray.append_empty]
    exact ⟨C, rfl, ⟨h4, hsm, h0, ⟨a, b, rfl, hCB⟩, hno⟩, hCB⟩
/-- What a fall leaves of an area. -/
theorem fall_some (xs : List Int) (i : Nat) (b : ByteArray) (s : Nat) (h : s ≤ b.size) : ∃ m, s ≤ m ∧ m ≤ b.size ∧ fallA xs i (some (b, s)) = some (b.extract 0 m, (b.extract 0 m).size) := by
  refine ⟨s + keepN xs i (b.size - s), by omega, ?_, rfl⟩
  have := keepN_le xs i (b.size - s)
  omega
theorem fall_at (xs : List Int) (A : Nat → Ar) (i : Nat) (h : i < 4) : fallTo xs A 4 i = fallA xs i (A i) := if_pos h
/-- Whatever a fall keeps, the log is opened and has one of these lists; its generation is no greater than G. -/
def Dn (room : Int) (A : Nat → Ar) (G : Int) (cand : List (List ByteArray)) : Prop := ∀ xs, ∃ (ar : Nat) (g : Int) (rec : List ByteArray) (B' : Nat → Ar), rec ∈ cand ∧ g ≤ G ∧ openR room (-1) false (fallTo xs A 4) = ((0, -1, false, B'), (ar : Int), g, rec) ∧ Up B' ar g rec
theorem Dn.more {room G G' : Int} {A : Nat → Ar} {c c' : List (List ByteArray)} (h : Dn room A G c) (hG : G ≤ G') (hc : ∀ x ∈ c, x ∈ c') : Dn room A G' c' := by
  intro xs
  obtain ⟨ar, g, rec, B', h1, h2, h3, h4⟩ := h xs
  exact ⟨ar, g, rec, B', hc _ h1, Int.le_trans h2 hG, h3, h4⟩
theorem ext_whole (b : ByteArray) (m : Nat) (h1 : b.size ≤ m) (h2 : m ≤ b.size) : b.extract 0 m = b := by
  rw [show m = b.size by omega]; exact ByteArray.extract_zero_size
theorem Up.fall {room : Int} {A : Nat → Ar} {ar : Nat} {g : Int} {rec : List ByteArray} (h : Up A ar g rec) (hg : g ≤ 18446744073709551615) (xs : List Int) : ∃ B', openR room (-1) false (fallTo xs A 4) = ((0, -1, false, B'), (ar : Int), g, rec) ∧ Up B' ar g rec ∧ B' ar = A ar := by
  obtain ⟨a, b, rfl, hA⟩ := h.at_
  have ha : Small a := fun x hx => h.sm x (List.mem_append_left _ hx)
  have hb : Small b := fun x hx => h.sm x (List.mem_append_right _ hx)
  have hB : fallTo xs A 4 ar = some (logB g a b ++ ByteArray.empty, (logB g a b ++ ByteArray.empty).size) := by
    rw [fall_at _ _ _ h.h4, hA, ByteArray.append_empty]
    obtain ⟨m, m1, m2, e⟩ := fall_some xs ar (logB g a b) _ (Nat.le_refl _)
    rw [e, ext_whole _ _ m1 m2]
  obtain ⟨B', o1, o2, o3⟩ := open_law (room := room) h.h4 h.g0 hg ha hb nxt_none hB (fun i hi hne => .inl (by rw [fall_at _ _ _ hi, h.no i hi hne]; rfl))
  exact ⟨B', o1, o2, o3.trans hA.symm⟩
theorem Up.dn {room : Int} {A : Nat → Ar} {ar : Nat} {g : Int} {rec : List ByteArray} (h : Up A ar g rec) (hg : g ≤ 18446744073709551615) : Dn room A g [rec] := by
  intro xs
  obtain ⟨B', h1, h2, _⟩ := h.fall (room := room) hg xs
  exact ⟨ar, g, rec, B', List.mem_singleton.2 rfl, Int.le_refl _, h1, h2⟩
/-- A record's frame has been written, and isn't sure. -/
theorem dn_append {room : Int} {A : Nat → Ar} {ar : Nat} {g : Int} {a b : List ByteArray} {s : ByteArray} (h4 : ar < 4) (h0 : 0 ≤ g) (hg : g ≤ 18446744073709551615) (hsm : Small (a ++ b)) (hs : s.size ≤ 16000)
    (hA : A ar = some (logB g a b ++ recF s, (logB g a b).size)) (hno : ∀ i, i < 4 → i ≠ ar → A i = none) : Dn room A g [a ++ b, (a ++ b) ++ [s]] := by
  intro xs
  have ha : Small a := fun x hx => hsm x (List.mem_append_left _ hx)
  have hb : Small b := fun x hx => hsm x (List.mem_append_right _ hx)
  have hbs : Small (b ++ [s]) := fun x hx => by
    rcases List.mem_append.1 hx with hx | hx
    · exact hb x hx
    · rw [List.mem_singleton.1 hx]; exact hs
  obtain ⟨m, m1, m2, e⟩ := fall_some xs ar (logB g a b ++ recF s) (logB g a b).size (by rw [ByteArray.size_append]; omega)
  have hO : ∀ i, i < 4 → i ≠ ar → fallTo xs A 4 i = none ∨ ∃ x s', fallTo xs A 4 i = some (x, s') ∧ ((lrd x).2.2.2 = false ∨ (lrd x).1 < g) := fun i hi hne => .inl (by rw [fall_at _ _ _ hi, hno i hi hne]; rfl)
  have hB : fallTo xs A 4 ar = some ((logB g a b ++ recF s).extract 0 m, ((logB g a b ++ recF s).extract 0 m).size) := by rw [fall_at _ _ _ h4, hA, e]
  rw [ByteArray.size_append] at m2
  have hsplit : (logB g a b ++ recF s).extract 0 m = logB g a b ++ (recF s).extract 0 (m - (logB g a b).size) := by
    apply bytes_ext
    rw [bytesOf_extract, bytesOf_append, bytesOf_append, bytesOf_extract, List.drop_zero, List.drop_zero, List.take_append, bytesOf_length, List.take_of_length_le (by rw [bytesOf_length]; exact m1)]
  rw [hsplit] at hB
  by_cases hw : m - (logB g a b).size = (recF s).size
  · rw [ext_whole _ _ (by omega) (by omega), ← logB_more] at hB
    have hB2 : fallTo xs A 4 ar = some (logB g a (b ++ [s]) ++ ByteArray.empty, (logB g a (b ++ [s]) ++ ByteArray.empty).size) := by rw [ByteArray.append_empty]; exact hB
    obtain ⟨B', o1, o2, o3⟩ := open_law (room := room) h4 h0 hg ha hbs nxt_none hB2 hO
    exact ⟨ar, g, a ++ (b ++ [s]), B', by simp, Int.le_refl _, o1, o2⟩
  · have hu : (nxt ((recF s).extract 0 (m - (logB g a b).size))).2.2 ≠ 0 := by
      rw [recF_eq s hs]
      refine nxt_part (rP s) _ ((frm (rP s)).extract (m - (logB g a b).size) (frm (rP s)).size) (by unfold rP; rw [tag_size]; omega) (extract_both _ _) ?_
      rw [ByteArray.size_extract]
      rw [recF_eq s hs] at hw m2
      omega
    obtain ⟨B', o1, o2, o3⟩ := open_law (room := room) h4 h0 hg ha hb hu hB hO
    exact ⟨ar, g, a ++ b, B', by simp, Int.le_refl _, o1, o2⟩
/-- A new log has been laid beside the old one, in part or whole, sure or not. -/
theorem dn_renew {room : Int} {A : Nat → Ar} {ar nw : Nat} {g : Int} {a b rs : List ByteArray} {x y : ByteArray} {s : Nat} (h4 : ar < 4) (hn4 : nw < 4) (hne : nw ≠ ar) (h0 : 0 ≤ g) (hg : g + 1 ≤ 18446744073709551615) (hsm : Small (a ++ b)) (hrs : Small rs)
    (hA : A ar = some (logB g a b, (logB g a b).size)) (hN : A nw = some (x, s)) (hsx : s ≤ x.size) (hx : logB (g + 1) rs [] = x ++ y) (hno : ∀ i, i < 4 → i ≠ ar → i ≠ nw → A i = none) : Dn room A (g + 1) [a ++ b, rs] := by
  intro xs
  have ha : Small a := fun x hx => hsm x (List.mem_append_left _ hx)
  have hb : Small b := fun x hx => hsm x (List.mem_append_right _ hx)
  obtain ⟨m, m1, m2, e⟩ := fall_some xs nw x s hsx
  have hBN : fallTo xs A 4 nw = some (x.extract 0 m, (x.extract 0 m).size) := by rw [fall_at _ _ _ hn4, hN, e]
  have hBA : fallTo xs A 4 ar = some (logB g a b ++ ByteArray.empty, (logB g a b ++ ByteArray.empty).size) := by
    rw [fall_at _ _ _ h4, hA, ByteArray.append_empty]
    obtain ⟨m, m1, m2, e⟩ := fall_some xs ar (logB g a b) _ (Nat.le_refl _)
    rw [e, ext_whole _ _ m1 m2]
  have hpre : logB (g + 1) rs [] = x.extract 0 m ++ (x.extract m x.size ++ y) := by rw [hx, ← ByteArray.append_assoc, ← extract_both]
  rcases lrd_part (by omega) hg hrs hpre with hw | hw
  · rw [hw] at hBN
    have hB2 : fallTo xs A 4 nw = some (logB (g + 1) rs [] ++ ByteArray.empty, (logB (g + 1) rs [] ++ ByteArray.empty).size) := by rw [ByteArray.append_empty]; exact hBN
    obtain ⟨B', o1, o2, o3⟩ := open_law (room := room) hn4 (by omega) hg hrs (fun _ h => by cases h) nxt_none hB2 (fun i hi hni => by
      by_cases hia : i = ar
      · subst hia
        exact .inr ⟨_, _, hBA, .inr (by rw [lrd_log h0 (by omega) ha hb nxt_none]; dsimp only; omega)⟩
      · exact .inl (by rw [fall_at _ _ _ hi, hno i hi hia hni]; rfl))
    rw [List.append_nil] at o1 o2
    exact ⟨nw, g + 1, rs, B', by simp, Int.le_refl _, o1, o2⟩
  · obtain ⟨B', o1, o2, o3⟩ := open_law (room := room) h4 h0 (by omega) ha hb nxt_none hBA (fun i hi hni => by
      by_cases hia : i = nw
      · subst hia
        exact .inr ⟨_, _, hBN, .inl hw⟩
      · exact .inl (by rw [fall_at _ _ _ hi, hno i hi hni hia]; rfl))
    exact ⟨ar, g, a ++ b, B', by simp, by omega, o1, o2⟩
end Go.Proofs.Ytccdmedhkbabpaa
/- What Append and Renew make of a log. No program in sight. -/
namespace Go.Proofs.Ytccdmedhkbabpaa
open Go.RowKit Go.Proofs.YtccdmedhkbabpaaW.PrintWords PRd PFr

/-- What bytes behind an area's end come to. -/
theorem ws_ways {room left : Int} {A : Nat → Ar} {n : Nat} (hn : n < 4) (s x : ByteArray) (k : Nat) (hA : A n = some (x, k)) (hl : -1 ≤ left) :
    (((usedTo A 4 + s.size : Nat) : Int) ≤ room ∧ (∃ l', (left = -1 → l' = -1) ∧ wsR room left false A (n : Int) s = (0, l', false, upd (upd A n (some (x ++ s, k))) n (some (x ++ s, (x ++ s).size))))) ∨
    (room < ((usedTo A 4 + s.size : Nat) : Int) ∧ wsR room left false A (n : Int) s = (10, left, false, A)) ∨
    (left ≠ -1 ∧ ∃ l', wsR room left false A (n : Int) s = (11, l', true, A) ∨ wsR room left false A (n : Int) s = (11, l', true, upd A n (some (x ++ s, k)))) := by
  by_cases hr : ((usedTo A 4 + s.size : Nat) : Int) ≤ room
  · have h0 : writeRef (usedTo A 4) s.size room (A n) = 0 := by rw [hA]; unfold writeRef; exact (if_pos rfl).trans (if_pos hr)
    by_cases hl0 : left = 0
    · subst hl0
      have e := step_out A n hn (writeRef (usedTo A 4) s.size room) (writeAct s) h0
      refine .inr (.inr ⟨by decide, 0, .inl ?_⟩)
      unfold wsR
      rw [e, if_neg (by show ¬ (11 : Int) = 0; decide)]
    · have e := step_ok A n hn (writeRef (usedTo A 4) s.size room) (writeAct s) left hl0 h0
      rw [show writeAct s (A n) = some (x ++ s, k) by rw [hA]; rfl] at e
      have hw : wsR room left false A (n : Int) s = stepR (max (left - 1) (-1)) false (upd A n (some (x ++ s, k))) (n : Int) thereRef syncAct := by
        unfold wsR; rw [e, if_pos rfl]
      rw [hw]
      have ht : thereRef ((upd A n (some (x ++ s, k))) n) = 0 := by rw [upd_at]; rfl
      by_cases hl1 : max (left - 1) (-1) = 0
      · rw [hl1]
        exact .inr (.inr ⟨by omega, 0, .inr (step_out _ n hn thereRef syncAct ht)⟩)
      · have e2 := step_ok (upd A n (some (x ++ s, k))) n hn thereRef syncAct (max (left - 1) (-1)) hl1 ht
        rw [show syncAct ((upd A n (some (x ++ s, k))) n) = some (x ++ s, (x ++ s).size) by rw [upd_at]; rfl] at e2
        exact .inl ⟨hr, _, by omega, e2⟩
  · have h10 : writeRef (usedTo A 4) s.size room (A n) = 10 := by rw [hA]; unfold writeRef; exact (if_pos rfl).trans (if_neg hr)
    have e := step_no A n hn (writeRef (usedTo A 4) s.size room) (writeAct s) left (by rw [h10]; decide)
    rw [h10] at e
    refine .inr (.inl ⟨by omega, ?_⟩)
    unfold wsR
    rw [e, if_neg (by show ¬ (10 : Int) = 0; decide)]
theorem append_law {room left : Int} {A : Nat → Ar} {ar : Nat} {g : Int} {rec : List ByteArray} (h : Up A ar g rec) (hg : g ≤ 18446744073709551615) (hl : -1 ≤ left) (s : ByteArray) :
    (16000 < s.size ∧ appR room left false A (ar : Int) s = (3, left, false, A)) ∨
    (s.size ≤ 16000 ∧ ∃ l' A', (left = -1 → l' = -1) ∧ appR room left false A (ar : Int) s = (0, l', false, A') ∧ Up A' ar g (rec ++ [s]) ∧ sz (A' ar) = sz (A ar) + (recF s).size) ∨
    (s.size ≤ 16000 ∧ room < ((sz (A ar) + (recF s).size : Nat) : Int) ∧ appR room left false A (ar : Int) s = (10, left, false, A)) ∨
    (left ≠ -1 ∧ ∃ l' A', appR room left false A (ar : Int) s = (11, l', true, A') ∧ Dn room A' g [rec, rec ++ [s]]) := by
  by_cases hs : 16000 < s.size
  · exact .inl ⟨hs, if_pos hs⟩
  · have e : appR room left false A (ar : Int) s = wsR room left false A (ar : Int) (recF s) := if_neg hs
    rw [e]
    obtain ⟨a, b, rfl, hA⟩ := h.at_
    have hu : usedTo A 4 = sz (A ar) := usedTo_one h.h4 h.no
    have hsm2 : Small ((a ++ b) ++ [s]) := fun x hx => by
      rcases List.mem_append.1 hx with hx | hx
      · exact h.sm x hx
      · rw [List.mem_singleton.1 hx]; omega
    rcases ws_ways (room := room) (left := left) h.h4 (recF s) (logB g a b) _ hA hl with ⟨h1, l', h2, h3⟩ | ⟨h1, h2⟩ | ⟨h1, l', h2 | h2⟩
    · refine .inr (.inl ⟨by omega, l', _, h2, h3, ⟨h.h4, hsm2, h.g0, ⟨a, b ++ [s], by simp, ?_⟩, fun i hi hne => ?_⟩, ?_⟩)
      · rw [upd_at, logB_more]
      · rw [upd_ne _ _ hne, upd_ne _ _ hne]; exact h.no i hi hne
      · rw [upd_at, hA]; show (logB g a b ++ recF s).size = (logB g a b).size + _; rw [ByteArray.size_append]
    · exact .inr (.inr (.inl ⟨by omega, by rw [← hu]; exact h1, h2⟩))
    · exact .inr (.inr (.inr ⟨h1, l', _, h2, (h.dn hg).more (Int.le_refl _) (fun x hx => by rw [List.mem_singleton.1 hx]; simp)⟩))
    · refine .inr (.inr (.inr ⟨h1, l', _, h2, ?_⟩))
      refine dn_append h.h4 h.g0 hg h.sm (by omega) ?_ (fun i hi hne => ?_)
      · rw [upd_at]
      · rw [upd_ne _ _ hne]; exact h.no i hi hne
theorem ffA_up {A : Nat → Ar} {ar : Nat} {g : Int} {rec : List ByteArray} (h : Up A ar g rec) : ffA A < 4 ∧ ffA A ≠ ar ∧ A (ffA A) = none := by
  have key : ∀ j, j < 4 → j ≠ ar → (∀ i, i < j → (A i).isSome = true) → ffA A = j := fun j hj hne hi => ffA_at A j (by omega) hi (by rw [hasR_nat A j hj, h.no j hj hne]; rfl)
  have e : ffA A = if ar = 0 then 1 else 0 := by
    by_cases h0 : ar = 0
    · rw [if_pos h0]
      subst h0
      refine key 1 (by decide) (by decide) (fun i hi => ?_)
      obtain rfl : i = 0 := by omega
      obtain ⟨a, b, _, hA⟩ := h.at_
      rw [hA]; rfl
    · rw [if_neg h0]
      exact key 0 (by decide) (Ne.symm h0) (fun i hi => absurd hi (by omega))
  rw [e]
  split
  · exact ⟨by decide, by omega, h.no 1 (by decide) (by omega)⟩
  · exact ⟨by decide, by omega, h.no 0 (by decide) (by omega)⟩
theorem genUp_small {g : Int} (h0 : 0 ≤ g) (h1 : g + 1 ≤ 18446744073709551615) : genUp g = g + 1 := by
  have e64 : genUp g = (g + 1) % 18446744073709551616 := rfl
  omega
theorem allFit_small {rs : List ByteArray} (h : allFit rs = true) : Small rs := by
  intro x hx
  unfold allFit at h
  rw [List.all_eq_true] at h
  simpa using h x hx
/-- What Renew comes to. -/
theorem renew_law {room left : Int} {A : Nat → Ar} {ar : Nat} {g : Int} {rec : List ByteArray} (h : Up A ar g rec) (hg : g + 1 ≤ 18446744073709551615) (hl : -1 ≤ left) (rs : List ByteArray) :
    (allFit rs = false ∧ renR room left false A (ar : Int) g rs = ((3, left, false, A), (ar : Int), g)) ∨
    (allFit rs = true ∧ ∃ l' A' ar', (left = -1 → l' = -1) ∧ renR room left false A (ar : Int) g rs = ((0, l', false, A'), ((ar' : Nat) : Int), g + 1) ∧ Up A' ar' (g + 1) rs ∧ sz (A' ar') = (layB (g + 1) rs).size) ∨
    (allFit rs = true ∧ room < ((sz (A ar) + (layB (g + 1) rs).size : Nat) : Int) ∧ ∃ l' A', (left = -1 → l' = -1) ∧ renR room left false A (ar : Int) g rs = ((10, l', false, A'), (ar : Int), g) ∧ Up A' ar g rec ∧ A' ar = A ar) ∨
    (left ≠ -1 ∧ ∃ l' A' ar' g', renR room left false A (ar : Int) g rs = ((10, l', true, A'), ar', g') ∧ Dn room A' (g + 1) [rec]) ∨
    (left ≠ -1 ∧ ∃ l' A' ar' g', renR room left false A (ar : Int) g rs = ((11, l', true, A'), ar', g') ∧ Dn room A' (g + 1) [rec, rs]) := by
  by_cases hf : allFit rs = false
  · exact .inl ⟨hf, if_pos hf⟩
  have hft : allFit rs = true := by cases hc : allFit rs with
    | false => exact absurd hc hf
    | true => rfl
  have hrs := allFit_small hft
  obtain ⟨n4, nne, nno⟩ := ffA_up h
  have hgu := genUp_small h.g0 hg
  obtain ⟨a, b, rfl, hA⟩ := h.at_
  have hu : usedTo A 4 = sz (A ar) := usedTo_one h.h4 h.no
  have e : renR room left false A (ar : Int) g rs = if (layR room left false A (ffA A) (g + 1) rs).1 = 0 then (thenCut (layR room left false A (ffA A) (g + 1) rs) (ar : Int), (ffA A : Int), g + 1)
    else if hasR (layR room left false A (ffA A) (g + 1) rs).2.2.2 (ffA A) = true then (((layR room left false A (ffA A) (g + 1) rs).1, (thenCut (layR room left false A (ffA A) (g + 1) rs) (ffA A)).2), (ar : Int), g)
    else (layR room left false A (ffA A) (g + 1) rs, (ar : Int), g) := by
    unfold renR
    rw [if_neg hf, hgu]
  rw [e]
  generalize ffA A = nw at *
  obtain ⟨L, hL⟩ : ∃ L, L = layB (g + 1) rs := ⟨_, rfl⟩
  have hLL : L = logB (g + 1) rs [] := by rw [hL, layB_log]
  -- lay
  have hl1 : layRef (A nw) = 0 := by rw [nno]; rfl
  have hdn0 : ∀ G c, Dn room A g [a ++ b] → g ≤ G → (∀ x ∈ [a ++ b], x ∈ c) → Dn room A G c := fun G c hd h1 h2 => hd.more h1 h2
  by_cases hl0 : left = 0
  · subst hl0
    have es := step_out A nw n4 layRef layAct hl1
    have er : layR room 0 false A (nw : Int) (g + 1) rs = (11, 0, true, A) := by
      unfold layR; rw [es, if_neg (by show ¬ (11 : Int) = 0; decide)]
    have hh : hasR A (nw : Int) = false := by rw [hasR_nat A nw n4, nno]; rfl
    rw [er, if_neg (by show ¬ (11 : Int) = 0; decide), if_neg (by dsimp only; rw [hh]; decide)]
    exact .inr (.inr (.inr (.inr ⟨by decide, 0, A, _, _, rfl, (h.dn (by omega)).more (by omega) (fun x hx => by rw [List.mem_singleton.1 hx]; simp)⟩)))
  have es := step_ok A nw n4 layRef layAct left hl0 hl1
  obtain ⟨A1, hA1⟩ : ∃ A1, A1 = upd A nw (some (ByteArray.empty, 0)) := ⟨_, rfl⟩
  rw [show layAct (A nw) = some (ByteArray.empty, 0) from rfl, ← hA1] at es
  obtain ⟨l1, hl1d⟩ : ∃ l1, l1 = max (left - 1) (-1) := ⟨_, rfl⟩
  rw [← hl1d] at es
  have hlr : layR room left false A (nw : Int) (g + 1) rs = wsR room l1 false A1 (nw : Int) L := by
    unfold layR; rw [es, if_pos rfl, hL]
  rw [hlr]
  have hA1n : A1 nw = some (ByteArray.empty, 0) := by rw [hA1, upd_at]
  have hA1a : A1 ar = some (logB g a b, (logB g a b).size) := by rw [hA1, upd_ne _ _ (Ne.symm nne)]; exact hA
  have hA1o : ∀ i, i < 4 → i ≠ ar → i ≠ nw → A1 i = none := fun i hi h1 h2 => by rw [hA1, upd_ne _ _ h2]; exact h.no i hi h1
  have hu1 : usedTo A1 4 = sz (A ar) := by
    have := used_upd A nw n4 (some (ByteArray.empty, 0))
    rw [← hA1, nno] at this
    have z1 : sz (some (ByteArray.empty, 0)) = 0 := rfl
    have z2 : sz (none : Ar) = 0 := rfl
    omega
  have hpre0 : logB (g + 1) rs [] = ByteArray.empty ++ logB (g + 1) rs [] := by rw [ByteArray.empty_append]
  have hdnA1 : Dn room A1 (g + 1) [a ++ b] := by
    intro xs
    have ha : Small a := fun x hx => h.sm x (List.mem_append_left _ hx)
    have hb : Small b := fun x hx => h.sm x (List.mem_append_right _ hx)
    have hBA : fallTo xs A1 4 ar = some (logB g a b ++ ByteArray.empty, (logB g a b ++ ByteArray.empty).size) := by
      rw [fall_at _ _ _ h.h4, hA1a, ByteArray.append_empty]
      obtain ⟨m, m1, m2, e⟩ := fall_some xs ar (logB g a b) _ (Nat.le_refl _)
      rw [e, ext_whole _ _ m1 m2]
    obtain ⟨B', o1, o2, o3⟩ := open_law (room := room) h.h4 h.g0 (by omega) ha hb nxt_none hBA (fun i hi hni => by
      by_cases hia : i = nw
      · subst hia
        obtain ⟨m, m1, m2, e⟩ := fall_some xs i ByteArray.empty 0 (Nat.le_refl _)
        refine .inr ⟨_, _, by rw [fall_at _ _ _ hi, hA1n, e], .inl ?_⟩
        rw [ext_whole _ _ m1 m2]
        have hH : hdL ByteArray.empty = (0, 0, false) := if_pos (.inl nxt_none)
        unfold lrd
        rw [hH]; rfl
      · exact .inl (by rw [fall_at _ _ _ hi, hA1o i hi hni hia]; rfl))
    exact ⟨ar, g, a ++ b, B', by simp, by omega, o1, o2⟩
  rcases ws_ways (room := room) (left := l1) n4 L ByteArray.empty 0 hA1n (by omega) with ⟨h1, l2, h2, h3⟩ | ⟨h1, h2⟩ | ⟨h1, l2, h2 | h2⟩
  · -- whole and sure: the old one is cut
    rw [h3, if_pos rfl]
    rw [ByteArray.empty_append]
    obtain ⟨A2, hA2⟩ : ∃ A2, A2 = upd (upd A1 nw (some (L, 0))) nw (some (L, L.size)) := ⟨_, rfl⟩
    rw [← hA2]
    have hA2n : A2 nw = some (L, L.size) := by rw [hA2, upd_at]
    have hA2a : A2 ar = some (logB g a b, (logB g a b).size) := by rw [hA2, upd_ne _ _ (Ne.symm nne), upd_ne _ _ (Ne.symm nne)]; exact hA1a
    have hA2o : ∀ i, i < 4 → i ≠ ar → i ≠ nw → A2 i = none := fun i hi h1 h2 => by rw [hA2, upd_ne _ _ h2, upd_ne _ _ h2]; exact hA1o i hi h1 h2
    have ht : thereRef (A2 ar) = 0 := by rw [hA2a]; rfl
    by_cases hl2 : l2 = 0
    · subst hl2
      have ec : thenCut (0, 0, false, A2) (ar : Int) = (11, 0, true, A2) := step_out A2 ar h.h4 thereRef cutAct ht
      rw [ec]
      refine .inr (.inr (.inr (.inr ⟨by omega, 0, A2, _, _, rfl, ?_⟩)))
      exact dn_renew h.h4 n4 nne h.g0 hg h.sm hrs hA2a hA2n (Nat.le_refl _) (by rw [hLL, ByteArray.append_empty]) hA2o
    · have ec : thenCut (0, l2, false, A2) (ar : Int) = (0, max (l2 - 1) (-1), false, upd A2 ar none) := step_ok A2 ar h.h4 thereRef cutAct l2 hl2 ht
      rw [ec]
      refine .inr (.inl ⟨hft, _, _, nw, by omega, rfl, ⟨n4, hrs, by have := h.g0; omega, ⟨rs, [], by simp, ?_⟩, fun i hi hne => ?_⟩, ?_⟩)
      · rw [upd_ne _ _ nne, hA2n, hLL]
      · by_cases hia : i = ar
        · subst hia; rw [upd_at]
        · rw [upd_ne _ _ hia]; exact hA2o i hi hia hne
      · rw [upd_ne _ _ nne, hA2n, ← hL]; rfl
  · -- no room: the new one is cut
    have hh : hasR A1 (nw : Int) = true := by rw [hasR_nat A1 nw n4, hA1n]; rfl
    rw [h2, if_neg (by show ¬ (10 : Int) = 0; decide), if_pos (by dsimp only; exact hh)]
    have ht : thereRef (A1 nw) = 0 := by rw [hA1n]; rfl
    by_cases hl2 : l1 = 0
    · rw [hl2]
      have ec : thenCut (10, 0, false, A1) (nw : Int) = (11, 0, true, A1) := step_out A1 nw n4 thereRef cutAct ht
      rw [ec]
      exact .inr (.inr (.inr (.inl ⟨by omega, 0, A1, _, _, rfl, hdnA1⟩)))
    · have ec : thenCut (10, l1, false, A1) (nw : Int) = (0, max (l1 - 1) (-1), false, upd A1 nw none) := step_ok A1 nw n4 thereRef cutAct l1 hl2 ht
      rw [ec]
      refine .inr (.inr (.inl ⟨hft, by rw [hu1, hL] at h1; exact h1, _, _, by omega, rfl, ⟨h.h4, h.sm, h.g0, ⟨a, b, rfl, ?_⟩, fun i hi hne => ?_⟩, ?_⟩))
      · rw [upd_ne _ _ (Ne.symm nne)]; exact hA1a
      · by_cases hia : i = nw
        · subst hia; rw [upd_at]
        · rw [upd_ne _ _ hia]; exact hA1o i hi hne hia
      · rw [upd_ne _ _ (Ne.symm nne), hA1a, hA]
  · have hh : hasR A1 (nw : Int) = true := by rw [hasR_nat A1 nw n4, hA1n]; rfl
    rw [h2, if_neg (by show ¬ (11 : Int) = 0; decide), if_pos (by dsimp only; exact hh)]
    have ec : thenCut (11, l2, true, A1) (nw : Int) = (11, l2, true, A1) := by unfold thenCut stepR; rw [if_pos rfl]
    rw [ec]
    exact .inr (.inr (.inr (.inr ⟨by omega, l2, A1, _, _, rfl, hdnA1.more (Int.le_refl _) (fun x hx => by rw [List.mem_singleton.1 hx]; simp)⟩)))
  · obtain ⟨A2, hA2⟩ : ∃ A2, A2 = upd A1 nw (some (ByteArray.empty ++ L, 0)) := ⟨_, rfl⟩
    rw [← hA2] at h2
    rw [ByteArray.empty_append] at hA2
    have hA2n : A2 nw = some (L, 0) := by rw [hA2, upd_at]
    have hA2a : A2 ar = some (logB g a b, (logB g a b).size) := by rw [hA2, upd_ne _ _ (Ne.symm nne)]; exact hA1a
    have hA2o : ∀ i, i < 4 → i ≠ ar → i ≠ nw → A2 i = none := fun i hi h1 h2 => by rw [hA2, upd_ne _ _ h2]; exact hA1o i hi h1 h2
    have hh : hasR A2 (nw : Int) = true := by rw [hasR_nat A2 nw n4, hA2n]; rfl
    rw [h2, if_neg (by show ¬ (11 : Int) = 0; decide), if_pos (by dsimp only; exact hh)]
    have ec : thenCut (11, l2, true, A2) (nw : Int) = (11, l2, true, A2) := by unfold thenCut stepR; rw [if_pos rfl]
    rw [ec]
    refine .inr (.inr (.inr (.inr ⟨by omega, l2, A2, _, _, rfl, ?_⟩)))
    exact dn_renew h.h4 n4 nne h.g0 hg h.sm hrs hA2a hA2n (Nat.zero_le _) (by rw [hLL, ByteArray.append_empty]) hA2o
/-- A drum without areas: a new log. -/
theorem open_new {room : Int} (hr : 100 ≤ room) : ∃ B', openR room (-1) false (fun _ => none) = ((0, -1, false, B'), 0, 1, []) ∧ Up B' 0 1 [] ∧ sz (B' 0) = (layB 1 []).size := by
  have hb : bestTo (fun _ => (none : Ar)) 4 = (-1, 0, [], 0, 0) := rfl
  have hc : cutsTo (-1) false (fun _ => (none : Ar)) (-1) 4 = (0, -1, false, fun _ => none) := by
    have h : ∀ i, i ≤ 4 → cutsTo (-1) false (fun _ => (none : Ar)) (-1) i = (0, -1, false, fun _ => none) := by
      intro i
      induction i with
      | zero => exact fun _ => rfl
      | succ i ih =>
        intro hi
        have e : cutsTo (-1) false (fun _ => (none : Ar)) (-1) (i + 1) = if (cutsTo (-1) false (fun _ => (none : Ar)) (-1) i).1 ≠ 0 then cutsTo (-1) false (fun _ => (none : Ar)) (-1) i
          else if hasR (cutsTo (-1) false (fun _ => (none : Ar)) (-1) i).2.2.2 i = true ∧ (i : Int) ≠ -1 then thenCut (cutsTo (-1) false (fun _ => (none : Ar)) (-1) i) i else cutsTo (-1) false (fun _ => (none : Ar)) (-1) i := rfl
        rw [e, ih (by omega), if_neg (fun h => h rfl), if_neg]
        rintro ⟨h, _⟩
        dsimp only at h
        rw [hasR_nat _ i (by omega)] at h
        cases h
    exact h 4 (Nat.le_refl _)
  have es := step_ok (fun _ => (none : Ar)) 0 (by decide) layRef layAct (-1) (by decide) rfl
  rw [show layAct ((fun _ => (none : Ar)) 0) = some (ByteArray.empty, 0) from rfl] at es
  obtain ⟨A1, hA1⟩ : ∃ A1, A1 = upd (fun _ => (none : Ar)) 0 (some (ByteArray.empty, 0)) := ⟨_, rfl⟩
  rw [← hA1] at es
  have hA1n : A1 0 = some (ByteArray.empty, 0) := by rw [hA1, upd_at]
  have hA1o : ∀ i, i < 4 → i ≠ 0 → A1 i = none := fun i _ h => by rw [hA1, upd_ne _ _ h]
  have hu : usedTo A1 4 = 0 := (usedTo_one (by decide) hA1o).trans (by rw [hA1n]; rfl)
  have e : openR room (-1) false (fun _ => none) = (wsR room (-1) false A1 ((0 : Nat) : Int) (layB 1 []), 0, 1, []) := by
    unfold openR
    rw [if_neg (by decide), hb]
    dsimp only
    rw [hc, if_neg (fun h => h rfl), if_pos (by decide)]
    dsimp only
    unfold layR
    have es2 : stepR (-1) false (fun _ => (none : Ar)) 0 layRef layAct = (0, max (-1 - 1) (-1), false, A1) := es
    rw [es2, if_pos rfl]; rfl
  have hsz := layB_nil 1 (by decide)
  rcases ws_ways (room := room) (left := -1) (n := 0) (by decide) (layB 1 []) ByteArray.empty 0 hA1n (by decide) with ⟨h1, l2, h2, h3⟩ | ⟨h1, h2⟩ | ⟨h1, _⟩
  · rw [e, h3, h2 rfl, ByteArray.empty_append]
    refine ⟨_, rfl, ⟨by decide, (fun x hx => by cases hx), by decide, ⟨[], [], rfl, ?_⟩, fun i hi hne => ?_⟩, ?_⟩
    · rw [upd_at, layB_log]
    · rw [upd_ne _ _ hne, upd_ne _ _ hne]; exact hA1o i hi hne
    · rw [upd_at]; rfl
  · exact absurd h1 (by rw [hu]; omega)
  · exact absurd rfl h1
end Go.Proofs.Ytccdmedhkbabpaa

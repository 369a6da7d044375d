/- The drum's functions: what each answers and leaves. Conditions: those that each theorem names. -/
import Derived.Test.YtahfcnbdladfbaaDw
set_option linter.unusedVariables false
set_option linter.unusedSimpArgs false
namespace Go.Proofs.Ytahfcnbdladfbaa
open Go.RowKit Go.Proofs.YtahfcnbdladfbaaW.PrintWords

section
variable {X : Nat → Obj → Prop} {w0 w : World} {g : Nat} {room left : Int} {down : Bool} {A : Nat → Ar} {K : Nat → Nat} {V : Nat → Value}
theorem ptr_none {a : Ar} {k : Nat} (h : a = none) : ptr a k = .pointer none := by subst h; rfl
theorem ptr_some {a : Ar} {k : Nat} {x : ByteArray × Nat} (h : a = some x) : ptr a k = .pointer (some ⟨k, 0, none⟩) := by subst h; rfl
theorem IsD.c0 (h : IsD X w0 w g room left down A K V) : w.cell? ⟨g, 0, none⟩ = some (.int .i64 room) := (blk_cell h.hb 0).trans rfl
theorem IsD.c1 (h : IsD X w0 w g room left down A K V) : w.cell? ⟨g, 1, none⟩ = some (.int .i64 left) := (blk_cell h.hb 1).trans rfl
theorem IsD.c2 (h : IsD X w0 w g room left down A K V) : w.cell? ⟨g, 2, none⟩ = some (.bool down) := (blk_cell h.hb 2).trans rfl
theorem IsD.cp (h : IsD X w0 w g room left down A K V) (n : Nat) (hn : n < 4) : w.cell? ⟨g, 3 + n, none⟩ = some (ptr (A n) (K n)) := (blk_cell h.hb (3 + n)).trans (dcells_at _ _ _ _ n hn)
theorem IsD.f (h : IsD X w0 w g room left down A K V) (n : Nat) : w.frozen? ⟨g, n, none⟩ = false := blk_frozen h.hb n

theorem down_calls (hI : IsD X w0 w g room left down A K V) : Calls Try.prog 12 #[.pointer (some ⟨g, 0, none⟩)] w fun e w' => e = .returned (.bool down) ∧ w' = w := by
  have c2 := hI.c2
  clear hI
  go_enter Try.func12, Try.ntmps12
  go_wp2
  go_ret
  exact ⟨rfl, rfl⟩
theorem fuel_calls (n : Int) (hI : IsD X w0 w g room left down A K V) (hB : Below w0.heap.size w0 w) : Calls Try.prog 10 #[.pointer (some ⟨g, 0, none⟩), .int .i64 n] w fun e w' => e = .returned (.tuple #[]) ∧ IsD X w0 w' g room (max n (-1)) down A K V ∧ Below w0.heap.size w0 w' := by
  have c1 := hI.c1
  have f1 := hI.f 1
  have HI := Lib.hid hI
  have HB := Lib.hid hB
  clear hI hB
  rcases (show n ≤ -1 ∨ -1 < n by omega) with hn | hn
  · rw [show max n (-1) = -1 by omega]
    go_enter Try.func10, Try.ntmps10
    go_wp2
    all_goals go_end0
    all_goals first | exact ⟨rfl, HI.out.setLeft _, HB.out.setCell HI.out.hg _⟩ | (exfalso; omega) | (obtain rfl : n = -1 := by omega); exact ⟨rfl, HI.out.setLeft _, HB.out.setCell HI.out.hg _⟩
  · rw [show max n (-1) = n by omega]
    go_enter Try.func10, Try.ntmps10
    go_wp2
    all_goals go_end0
    all_goals first | exact ⟨rfl, HI.out.setLeft _, HB.out.setCell HI.out.hg _⟩ | (exfalso; omega)
theorem there_calls (a : Ar) (k : Nat) (w : World) : Calls Try.prog 33 #[ptr a k] w fun e w' => e = .returned (.int .i64 (if a.isSome then 0 else 12)) ∧ w' = w := by
  cases a with
  | none =>
    show Calls Try.prog _ #[.pointer none] w _
    go_enter Try.func33, Try.ntmps33
    go_wp2
    go_ret
    exact ⟨rfl, rfl⟩
  | some x =>
    show Calls Try.prog _ #[.pointer (some ⟨k, 0, none⟩)] w _
    go_enter Try.func33, Try.ntmps33
    go_wp2
    go_ret
    exact ⟨rfl, rfl⟩
theorem lay1_calls (a : Ar) (k : Nat) (w : World) : Calls Try.prog 30 #[ptr a k] w fun e w' => e = .returned (.int .i64 (if a.isSome then 1 else 0)) ∧ w' = w := by
  cases a with
  | none =>
    show Calls Try.prog _ #[.pointer none] w _
    go_enter Try.func30, Try.ntmps30
    go_wp2
    go_ret
    exact ⟨rfl, rfl⟩
  | some x =>
    show Calls Try.prog _ #[.pointer (some ⟨k, 0, none⟩)] w _
    go_enter Try.func30, Try.ntmps30
    go_wp2
    go_ret
    exact ⟨rfl, rfl⟩
theorem lay2_calls (n : Nat) (hn : n < 4) (hI : IsD X w0 w g room left down A K V) (hB : Below w0.heap.size w0 w) : Calls Try.prog 31 #[.pointer (some ⟨g, 3 + n, none⟩)] w fun e w' => e = .returned (.tuple #[]) ∧
    (∃ K' V', IsD X w0 w' g room left down (upd A n (some (ByteArray.empty, 0))) K' V') ∧ Below w0.heap.size w0 w' := by
  have cp := (hI.alloc (.cells #[.slice none 0 0, .int .i64 0] 66)).cp n hn
  have cp0 := hI.cp n hn
  have fp := (hI.alloc (.cells #[.slice none 0 0, .int .i64 0] 66)).f (3 + n)
  have fp0 := hI.f (3 + n)
  have HI := Lib.hid hI
  have HB := Lib.hid hB
  clear hI hB
  generalize ptr (A n) (K n) = pv at *
  go_enter Try.func31, Try.ntmps31
  go_wp2
  go_end0
  exact ⟨rfl, ⟨_, _, HI.out.lay HB.out.size n hn⟩, (below_alloc' HB.out _).setCell HI.out.hg _⟩
theorem cut1_calls (n : Nat) (hn : n < 4) (hI : IsD X w0 w g room left down A K V) (hB : Below w0.heap.size w0 w) : Calls Try.prog 41 #[.pointer (some ⟨g, 3 + n, none⟩)] w fun e w' => e = .returned (.tuple #[]) ∧
    (∃ K' V', IsD X w0 w' g room left down (upd A n none) K' V') ∧ Below w0.heap.size w0 w' := by
  have cp0 := hI.cp n hn
  have fp0 := hI.f (3 + n)
  have HI := Lib.hid hI
  have HB := Lib.hid hB
  clear hI hB
  generalize ptr (A n) (K n) = pv at *
  go_enter Try.func41, Try.ntmps41
  go_wp2
  go_end0
  exact ⟨rfl, ⟨_, _, HI.out.cut n hn⟩, HB.out.setCell HI.out.hg _⟩
/-- A store into an area's block. -/
theorem area_store {W : World} {k : Nat} {v : Value} {s : Int} {fr : Nat × Nat} (h : W.heap[k]? = some (.cells #[v, .int .i64 s] 66 fr)) (s' : Int) : (W.setCell ⟨k, 1, none⟩ (.int .i64 s')).heap[k]? = some (.cells #[v, .int .i64 s'] 66 fr) := by
  simp only [World.setCell, Array.getElem?_modify, h]
  simp
theorem area_store0 {W : World} {k : Nat} {v v' : Value} {s : Value} {fr : Nat × Nat} (h : W.heap[k]? = some (.cells #[v, s] 66 fr)) : (W.setCell ⟨k, 0, none⟩ v').heap[k]? = some (.cells #[v', s] 66 fr) := by
  simp only [World.setCell, Array.getElem?_modify, h]
  simp
theorem IsD.setSure (h : IsD X w0 w g room left down A K V) (n : Nat) (hn : n < 4) {b : ByteArray} {s : Nat} (hA : A n = some (b, s)) (s' : Nat) : IsD X w0 (w.setCell ⟨K n, 1, none⟩ (.int .i64 (s' : Int))) g room left down (upd A n (some (b, s'))) K (upd V n (V n)) := by
  obtain ⟨h1, h2, h3⟩ := h.ha n hn b s hA
  refine h.area n hn hA (area_store h1 _) (own_move h3 fun k hk => Below.heap_setCell w ⟨K n, 1, none⟩ _ k (row_ne h3 h1 (by decide) k hk)) (.inl rfl) (fun k _ hk _ => Below.heap_setCell w ⟨K n, 1, none⟩ _ k hk)
theorem all_calls (n : Nat) (hn : n < 4) {b : ByteArray} {s : Nat} (hA : A n = some (b, s)) (hI : IsD X w0 w g room left down A K V) (hB : Below w0.heap.size w0 w) : Calls Try.prog 36 #[.pointer (some ⟨K n, 0, none⟩)] w fun e w' => e = .returned (.tuple #[]) ∧
    (∃ K' V', IsD X w0 w' g room left down (upd A n (some (b, b.size))) K' V') ∧ Below w0.heap.size w0 w' := by
  obtain ⟨h1, h2, h3⟩ := hI.ha n hn b s hA
  have c0 : w.cell? ⟨K n, 0, none⟩ = some (V n) := (blk_cell h1 0).trans rfl
  have c1 : w.cell? ⟨K n, 1, none⟩ = some (.int .i64 (s : Int)) := (blk_cell h1 1).trans rfl
  have f1 := blk_frozen h1 1
  obtain ⟨R, c, hv⟩ := own_slice h3
  rw [hv] at c0
  have HI := Lib.hid hI
  have HB := Lib.hid hB
  have H2 := Lib.hid h2
  clear hI hB h1 h3 hv h2
  have HE := Lib.hid (HI.out.setSure n hn hA b.size)
  generalize K n = kn at *
  go_enter Try.func36, Try.ntmps36
  go_wp2
  go_end0
  exact ⟨rfl, ⟨_, _, HE.out⟩, HB.out.setCell H2.out _⟩
theorem sync1_calls (n : Nat) (hn : n < 4) {b : ByteArray} {s : Nat} (hA : A n = some (b, s)) (hI : IsD X w0 w g room left down A K V) (hB : Below w0.heap.size w0 w) : Calls Try.prog 35 #[.pointer (some ⟨g, 3 + n, none⟩)] w fun e w' => e = .returned (.tuple #[]) ∧
    (∃ K' V', IsD X w0 w' g room left down (upd A n (some (b, b.size))) K' V') ∧ Below w0.heap.size w0 w' := by
  have cp0 := hI.cp n hn
  rw [ptr_some hA] at cp0
  have HC := Lib.hid (all_calls n hn hA hI hB)
  clear hI hB
  go_enter Try.func35, Try.ntmps35
  go_wp2_with fail
  refine HC.out.mono ?_
  rintro e w1 ⟨rfl, h⟩
  have H := Lib.hid h
  clear h
  go_wp2
  go_end0
  exact ⟨rfl, H.out⟩
/-- What a step is refused for; what it does. -/
def layRef (a : Ar) : Int := if a.isSome then 1 else 0
def thereRef (a : Ar) : Int := if a.isSome then 0 else 12
def layAct (_ : Ar) : Ar := some (ByteArray.empty, 0)
def cutAct (_ : Ar) : Ar := none
def syncAct (a : Ar) : Ar := a.map fun x => (x.1, x.1.size)
/-- What a step leaves: its answer, and the drum behind it. -/
def stepR (left : Int) (down : Bool) (A : Nat → Ar) (n : Int) (refuse : Ar → Int) (act : Ar → Ar) : Int × Int × Bool × (Nat → Ar) :=
  if down then (11, left, down, A) else if n < 0 ∨ 4 ≤ n then (1, left, down, A) else if refuse (A n.toNat) ≠ 0 then (refuse (A n.toNat), left, down, A)
  else if left = 0 then (11, left, true, A) else (0, max (left - 1) (-1), down, upd A n.toNat (act (A n.toNat)))
/-- The drum behind it, wherever its areas lie by now. -/
def AtD (X : Nat → Obj → Prop) (w0 w' : World) (g : Nat) (room : Int) (r : Int × Int × Bool × (Nat → Ar)) : Prop := (∃ K' V', IsD X w0 w' g room r.2.1 r.2.2.1 r.2.2.2 K' V') ∧ Below w0.heap.size w0 w'
theorem AtD.drew {w' : World} {r : Int × Int × Bool × (Nat → Ar)} (h : AtD X w0 w' g room r) : AtD X w0 w'.drew g room r := by
  obtain ⟨⟨K', V', h1⟩, h2⟩ := h
  exact ⟨⟨K', V', h1.drew⟩, below_drew1 h2⟩
set_option maxRecDepth 100000 in
set_option maxHeartbeats 4000000 in
theorem step_lay (n : Int) (hI : IsD X w0 w g room left down A K V) (hB : Below w0.heap.size w0 w) (hl : -1 ≤ left ∧ left ≤ 9223372036854775807) (hn64 : -9223372036854775808 ≤ n ∧ n ≤ 9223372036854775807) :
    Calls Try.prog 29 #[.pointer (some ⟨g, 0, none⟩), .int .i64 n, .func (Fn.func 30) #[] #[], .func (Fn.func 31) #[] #[]] w fun e w' => e = .returned (.int .i64 (stepR left down A n layRef layAct).1) ∧ AtD X w0 w' g room (stepR left down A n layRef layAct) := by
  have HI := Lib.hid hI
  have HB := Lib.hid hB
  clear hI hB
  cases down with
  | true =>
    have HR : Hid (stepR left true A n layRef layAct = (11, left, true, A)) := Lib.hid (by unfold stepR; rw [if_pos rfl])
    rw [HR.out]
    go_enter Try.func29, Try.ntmps29
    go_wp2_with fail
    refine (down_calls HI.out).mono ?_
    rintro e w1 ⟨rfl, rfl⟩
    go_wp2_with fail
    go_ret
    exact ⟨rfl, ⟨_, _, HI.out⟩, HB.out⟩
  | false =>
    rcases (show (n < 0 ∨ 4 ≤ n) ∨ (0 ≤ n ∧ n < 4) by omega) with hn | ⟨hn0, hn4⟩
    · have HR : Hid (stepR left false A n layRef layAct = (1, left, false, A)) := Lib.hid (by unfold stepR; rw [if_neg (by decide), if_pos hn])
      rw [HR.out]
      rcases hn with hn | hn
      ·
        go_enter Try.func29, Try.ntmps29
        go_wp2_with fail
        refine (down_calls HI.out).mono ?_
        rintro e w1 ⟨rfl, rfl⟩
        go_wp2_with fail
        go_ret
        exact ⟨rfl, ⟨_, _, HI.out⟩, HB.out⟩
      ·
        go_enter Try.func29, Try.ntmps29
        go_wp2_with fail
        refine (down_calls HI.out).mono ?_
        rintro e w1 ⟨rfl, rfl⟩
        go_wp2_with fail
        go_ret
        exact ⟨rfl, ⟨_, _, HI.out⟩, HB.out⟩
    · obtain ⟨i, rfl⟩ : ∃ i : Nat, n = (i : Int) := ⟨n.toNat, by omega⟩
      have hi : i < 4 := by omega
      have hcp := HI.out.cp i hi
      have c1 := HI.out.c1
      have f1 := HI.out.f 1
      have c2 := HI.out.c2
      have f2 := HI.out.f 2
      have HS : Hid (stepR left false A (i : Int) layRef layAct = if layRef (A i) ≠ 0 then (layRef (A i), left, false, A) else if left = 0 then (11, left, true, A) else (0, max (left - 1) (-1), false, upd A i (layAct (A i)))) := Lib.hid (by unfold stepR; rw [if_neg (by decide), if_neg (by omega), Int.toNat_natCast]; first | done | rfl)
      generalize hst : stepR left false A (i : Int) layRef layAct = st at *
      clear hst
      obtain ⟨hl0, hl1⟩ := hl
      have HCP := Lib.hid hcp
      clear hcp hn0
      generalize hpv : ptr (A i) (K i) = pv
      have cp : w.cell? ⟨g, 3 + i, none⟩ = some pv := by rw [← hpv]; exact HCP.out
      have HPV := Lib.hid hpv
      clear hpv HCP
      go_enter Try.func29, Try.ntmps29
      go_wp2_with fail
      refine (down_calls HI.out).mono ?_
      rintro e w1 ⟨rfl, rfl⟩
      go_wp2_with fail
      rw [← HPV.out]
      refine (lay1_calls (A i) (K i) _).mono ?_
      rintro e w2 ⟨rfl, rfl⟩
      rw [HPV.out]
      cases hA : A i with
      | none =>
        rw [hA] at HS
        have HA := Lib.hid hA
        clear hA
        rcases (show left = 0 ∨ left = -1 ∨ 1 ≤ left by omega) with h0 | h0 | h0
        · subst h0
          have HS2 : Hid (st = (11, 0, true, A)) := Lib.hid (by rw [HS.out]; first | rfl | (simp [layRef, thereRef]; done) | (simp [layRef, thereRef, layAct, cutAct, syncAct]))
          clear HS
          go_wp2_with fail
          go_ret
          rw [HS2.out]
          exact ⟨rfl, ⟨_, _, HI.out.setDown true⟩, HB.out.setCell HI.out.hg _⟩
        · subst h0
          have HS2 : Hid (st = (0, -1, false, upd A i (layAct (A i)))) := Lib.hid (by rw [HS.out, HA.out]; first | rfl | (simp [layRef, thereRef]; done) | (simp [layRef, thereRef, layAct, cutAct, syncAct]))
          have HI2 := Lib.hid (HI.out.setLeft (-1))
          have HB2 := Lib.hid (HB.out.setCell HI.out.hg (p := ⟨g, 1, none⟩) (.int .i64 (-1)))
          clear HS
          go_wp2_with fail
          refine (lay2_calls i hi HI2.out HB2.out).mono ?_
          rintro e w3 ⟨rfl, h3, h4⟩
          have H3 := Lib.hid h3
          have H4 := Lib.hid h4
          clear h3 h4
          go_wp2_with fail
          go_ret
          rw [HS2.out]
          exact ⟨rfl, by first | exact H3.out | (rw [HA.out]; exact H3.out), H4.out⟩
        · have HS2 : Hid (st = (0, left - 1, false, upd A i (layAct (A i)))) := Lib.hid (by rw [HS.out, HA.out, show max (left - 1) (-1) = left - 1 by omega]; rw [if_neg (by simp [layRef, thereRef]), if_neg (by omega)])
          have HI2 := Lib.hid (HI.out.setLeft (left - 1))
          have HB2 := Lib.hid (HB.out.setCell HI.out.hg (p := ⟨g, 1, none⟩) (.int .i64 (left - 1)))
          have hm1 : ¬ left = 0 := by omega
          have hm2 : max (left - 1) (-1) = left - 1 := by omega
          have hm3 : (-1 : Int) ≤ left - 1 := by omega
          clear HS
          go_wp2_with fail
          refine (lay2_calls i hi HI2.out HB2.out).mono ?_
          rintro e w3 ⟨rfl, h3, h4⟩
          have H3 := Lib.hid h3
          have H4 := Lib.hid h4
          clear h3 h4
          go_wp2_with fail
          go_ret
          rw [HS2.out]
          exact ⟨rfl, by first | exact H3.out | (rw [HA.out]; exact H3.out), H4.out⟩
      | some x =>
        rw [hA] at HS
        have HA := Lib.hid hA
        clear hA
        have HS2 : Hid (st = (1, left, false, A)) := Lib.hid (by rw [HS.out]; first | rfl | (simp [layRef, thereRef]; done) | (simp [layRef, thereRef, layAct, cutAct, syncAct]))
        clear HS
        go_wp2_with fail
        go_ret
        rw [HS2.out]
        exact ⟨rfl, ⟨_, _, HI.out⟩, HB.out⟩
set_option maxRecDepth 100000 in
set_option maxHeartbeats 4000000 in
theorem step_cut (n : Int) (hI : IsD X w0 w g room left down A K V) (hB : Below w0.heap.size w0 w) (hl : -1 ≤ left ∧ left ≤ 9223372036854775807) (hn64 : -9223372036854775808 ≤ n ∧ n ≤ 9223372036854775807) :
    Calls Try.prog 29 #[.pointer (some ⟨g, 0, none⟩), .int .i64 n, .func (Fn.func 33) #[] #[], .func (Fn.func 41) #[] #[]] w fun e w' => e = .returned (.int .i64 (stepR left down A n thereRef cutAct).1) ∧ AtD X w0 w' g room (stepR left down A n thereRef cutAct) := by
  have HI := Lib.hid hI
  have HB := Lib.hid hB
  clear hI hB
  cases down with
  | true =>
    have HR : Hid (stepR left true A n thereRef cutAct = (11, left, true, A)) := Lib.hid (by unfold stepR; rw [if_pos rfl])
    rw [HR.out]
    go_enter Try.func29, Try.ntmps29
    go_wp2_with fail
    refine (down_calls HI.out).mono ?_
    rintro e w1 ⟨rfl, rfl⟩
    go_wp2_with fail
    go_ret
    exact ⟨rfl, ⟨_, _, HI.out⟩, HB.out⟩
  | false =>
    rcases (show (n < 0 ∨ 4 ≤ n) ∨ (0 ≤ n ∧ n < 4) by omega) with hn | ⟨hn0, hn4⟩
    · have HR : Hid (stepR left false A n thereRef cutAct = (1, left, false, A)) := Lib.hid (by unfold stepR; rw [if_neg (by decide), if_pos hn])
      rw [HR.out]
      rcases hn with hn | hn
      ·
        go_enter Try.func29, Try.ntmps29
        go_wp2_with fail
        refine (down_calls HI.out).mono ?_
        rintro e w1 ⟨rfl, rfl⟩
        go_wp2_with fail
        go_ret
        exact ⟨rfl, ⟨_, _, HI.out⟩, HB.out⟩
      ·
        go_enter Try.func29, Try.ntmps29
        go_wp2_with fail
        refine (down_calls HI.out).mono ?_
        rintro e w1 ⟨rfl, rfl⟩
        go_wp2_with fail
        go_ret
        exact ⟨rfl, ⟨_, _, HI.out⟩, HB.out⟩
    · obtain ⟨i, rfl⟩ : ∃ i : Nat, n = (i : Int) := ⟨n.toNat, by omega⟩
      have hi : i < 4 := by omega
      have hcp := HI.out.cp i hi
      have c1 := HI.out.c1
      have f1 := HI.out.f 1
      have c2 := HI.out.c2
      have f2 := HI.out.f 2
      have HS : Hid (stepR left false A (i : Int) thereRef cutAct = if thereRef (A i) ≠ 0 then (thereRef (A i), left, false, A) else if left = 0 then (11, left, true, A) else (0, max (left - 1) (-1), false, upd A i (cutAct (A i)))) := Lib.hid (by unfold stepR; rw [if_neg (by decide), if_neg (by omega), Int.toNat_natCast]; first | done | rfl)
      generalize hst : stepR left false A (i : Int) thereRef cutAct = st at *
      clear hst
      obtain ⟨hl0, hl1⟩ := hl
      have HCP := Lib.hid hcp
      clear hcp hn0
      generalize hpv : ptr (A i) (K i) = pv
      have cp : w.cell? ⟨g, 3 + i, none⟩ = some pv := by rw [← hpv]; exact HCP.out
      have HPV := Lib.hid hpv
      clear hpv HCP
      go_enter Try.func29, Try.ntmps29
      go_wp2_with fail
      refine (down_calls HI.out).mono ?_
      rintro e w1 ⟨rfl, rfl⟩
      go_wp2_with fail
      rw [← HPV.out]
      refine (there_calls (A i) (K i) _).mono ?_
      rintro e w2 ⟨rfl, rfl⟩
      rw [HPV.out]
      cases hA : A i with
      | none =>
        rw [hA] at HS
        have HA := Lib.hid hA
        clear hA
        have HS2 : Hid (st = (12, left, false, A)) := Lib.hid (by rw [HS.out]; first | rfl | (simp [layRef, thereRef]; done) | (simp [layRef, thereRef, layAct, cutAct, syncAct]))
        clear HS
        go_wp2_with fail
        go_ret
        rw [HS2.out]
        exact ⟨rfl, ⟨_, _, HI.out⟩, HB.out⟩
      | some x =>
        rw [hA] at HS
        have HA := Lib.hid hA
        clear hA
        obtain ⟨b, s⟩ := x
        rcases (show left = 0 ∨ left = -1 ∨ 1 ≤ left by omega) with h0 | h0 | h0
        · subst h0
          have HS2 : Hid (st = (11, 0, true, A)) := Lib.hid (by rw [HS.out]; first | rfl | (simp [layRef, thereRef]; done) | (simp [layRef, thereRef, layAct, cutAct, syncAct]))
          clear HS
          go_wp2_with fail
          go_ret
          rw [HS2.out]
          exact ⟨rfl, ⟨_, _, HI.out.setDown true⟩, HB.out.setCell HI.out.hg _⟩
        · subst h0
          have HS2 : Hid (st = (0, -1, false, upd A i (cutAct (A i)))) := Lib.hid (by rw [HS.out, HA.out]; first | rfl | (simp [layRef, thereRef]; done) | (simp [layRef, thereRef, layAct, cutAct, syncAct]))
          have HI2 := Lib.hid (HI.out.setLeft (-1))
          have HB2 := Lib.hid (HB.out.setCell HI.out.hg (p := ⟨g, 1, none⟩) (.int .i64 (-1)))
          clear HS
          go_wp2_with fail
          refine (cut1_calls i hi HI2.out HB2.out).mono ?_
          rintro e w3 ⟨rfl, h3, h4⟩
          have H3 := Lib.hid h3
          have H4 := Lib.hid h4
          clear h3 h4
          go_wp2_with fail
          go_ret
          rw [HS2.out]
          exact ⟨rfl, by first | exact H3.out | (rw [HA.out]; exact H3.out), H4.out⟩
        · have HS2 : Hid (st = (0, left - 1, false, upd A i (cutAct (A i)))) := Lib.hid (by rw [HS.out, HA.out, show max (left - 1) (-1) = left - 1 by omega]; rw [if_neg (by simp [layRef, thereRef]), if_neg (by omega)])
          have HI2 := Lib.hid (HI.out.setLeft (left - 1))
          have HB2 := Lib.hid (HB.out.setCell HI.out.hg (p := ⟨g, 1, none⟩) (.int .i64 (left - 1)))
          have hm1 : ¬ left = 0 := by omega
          have hm2 : max (left - 1) (-1) = left - 1 := by omega
          have hm3 : (-1 : Int) ≤ left - 1 := by omega
          clear HS
          go_wp2_with fail
          refine (cut1_calls i hi HI2.out HB2.out).mono ?_
          rintro e w3 ⟨rfl, h3, h4⟩
          have H3 := Lib.hid h3
          have H4 := Lib.hid h4
          clear h3 h4
          go_wp2_with fail
          go_ret
          rw [HS2.out]
          exact ⟨rfl, by first | exact H3.out | (rw [HA.out]; exact H3.out), H4.out⟩
set_option maxRecDepth 100000 in
set_option maxHeartbeats 4000000 in
theorem step_sync (n : Int) (hI : IsD X w0 w g room left down A K V) (hB : Below w0.heap.size w0 w) (hl : -1 ≤ left ∧ left ≤ 9223372036854775807) (hn64 : -9223372036854775808 ≤ n ∧ n ≤ 9223372036854775807) :
    Calls Try.prog 29 #[.pointer (some ⟨g, 0, none⟩), .int .i64 n, .func (Fn.func 33) #[] #[], .func (Fn.func 35) #[] #[]] w fun e w' => e = .returned (.int .i64 (stepR left down A n thereRef syncAct).1) ∧ AtD X w0 w' g room (stepR left down A n thereRef syncAct) := by
  have HI := Lib.hid hI
  have HB := Lib.hid hB
  clear hI hB
  cases down with
  | true =>
    have HR : Hid (stepR left true A n thereRef syncAct = (11, left, true, A)) := Lib.hid (by unfold stepR; rw [if_pos rfl])
    rw [HR.out]
    go_enter Try.func29, Try.ntmps29
    go_wp2_with fail
    refine (down_calls HI.out).mono ?_
    rintro e w1 ⟨rfl, rfl⟩
    go_wp2_with fail
    go_ret
    exact ⟨rfl, ⟨_, _, HI.out⟩, HB.out⟩
  | false =>
    rcases (show (n < 0 ∨ 4 ≤ n) ∨ (0 ≤ n ∧ n < 4) by omega) with hn | ⟨hn0, hn4⟩
    · have HR : Hid (stepR left false A n thereRef syncAct = (1, left, false, A)) := Lib.hid (by unfold stepR; rw [if_neg (by decide), if_pos hn])
      rw [HR.out]
      rcases hn with hn | hn
      ·
        go_enter Try.func29, Try.ntmps29
        go_wp2_with fail
        refine (down_calls HI.out).mono ?_
        rintro e w1 ⟨rfl, rfl⟩
        go_wp2_with fail
        go_ret
        exact ⟨rfl, ⟨_, _, HI.out⟩, HB.out⟩
      ·
        go_enter Try.func29, Try.ntmps29
        go_wp2_with fail
        refine (down_calls HI.out).mono ?_
        rintro e w1 ⟨rfl, rfl⟩
        go_wp2_with fail
        go_ret
        exact ⟨rfl, ⟨_, _, HI.out⟩, HB.out⟩
    · obtain ⟨i, rfl⟩ : ∃ i : Nat, n = (i : Int) := ⟨n.toNat, by omega⟩
      have hi : i < 4 := by omega
      have hcp := HI.out.cp i hi
      have c1 := HI.out.c1
      have f1 := HI.out.f 1
      have c2 := HI.out.c2
      have f2 := HI.out.f 2
      have HS : Hid (stepR left false A (i : Int) thereRef syncAct = if thereRef (A i) ≠ 0 then (thereRef (A i), left, false, A) else if left = 0 then (11, left, true, A) else (0, max (left - 1) (-1), false, upd A i (syncAct (A i)))) := Lib.hid (by unfold stepR; rw [if_neg (by decide), if_neg (by omega), Int.toNat_natCast]; first | done | rfl)
      generalize hst : stepR left false A (i : Int) thereRef syncAct = st at *
      clear hst
      obtain ⟨hl0, hl1⟩ := hl
      have HCP := Lib.hid hcp
      clear hcp hn0
      generalize hpv : ptr (A i) (K i) = pv
      have cp : w.cell? ⟨g, 3 + i, none⟩ = some pv := by rw [← hpv]; exact HCP.out
      have HPV := Lib.hid hpv
      clear hpv HCP
      go_enter Try.func29, Try.ntmps29
      go_wp2_with fail
      refine (down_calls HI.out).mono ?_
      rintro e w1 ⟨rfl, rfl⟩
      go_wp2_with fail
      rw [← HPV.out]
      refine (there_calls (A i) (K i) _).mono ?_
      rintro e w2 ⟨rfl, rfl⟩
      rw [HPV.out]
      cases hA : A i with
      | none =>
        rw [hA] at HS
        have HA := Lib.hid hA
        clear hA
        have HS2 : Hid (st = (12, left, false, A)) := Lib.hid (by rw [HS.out]; first | rfl | (simp [layRef, thereRef]; done) | (simp [layRef, thereRef, layAct, cutAct, syncAct]))
        clear HS
        go_wp2_with fail
        go_ret
        rw [HS2.out]
        exact ⟨rfl, ⟨_, _, HI.out⟩, HB.out⟩
      | some x =>
        rw [hA] at HS
        have HA := Lib.hid hA
        clear hA
        obtain ⟨b, s⟩ := x
        rcases (show left = 0 ∨ left = -1 ∨ 1 ≤ left by omega) with h0 | h0 | h0
        · subst h0
          have HS2 : Hid (st = (11, 0, true, A)) := Lib.hid (by rw [HS.out]; first | rfl | (simp [layRef, thereRef]; done) | (simp [layRef, thereRef, layAct, cutAct, syncAct]))
          clear HS
          go_wp2_with fail
          go_ret
          rw [HS2.out]
          exact ⟨rfl, ⟨_, _, HI.out.setDown true⟩, HB.out.setCell HI.out.hg _⟩
        · subst h0
          have HS2 : Hid (st = (0, -1, false, upd A i (syncAct (A i)))) := Lib.hid (by rw [HS.out, HA.out]; first | rfl | (simp [layRef, thereRef]; done) | (simp [layRef, thereRef, layAct, cutAct, syncAct]))
          have HI2 := Lib.hid (HI.out.setLeft (-1))
          have HB2 := Lib.hid (HB.out.setCell HI.out.hg (p := ⟨g, 1, none⟩) (.int .i64 (-1)))
          clear HS
          go_wp2_with fail
          refine (sync1_calls i hi HA.out HI2.out HB2.out).mono ?_
          rintro e w3 ⟨rfl, h3, h4⟩
          have H3 := Lib.hid h3
          have H4 := Lib.hid h4
          clear h3 h4
          go_wp2_with fail
          go_ret
          rw [HS2.out]
          exact ⟨rfl, by first | exact H3.out | (rw [HA.out]; exact H3.out), H4.out⟩
        · have HS2 : Hid (st = (0, left - 1, false, upd A i (syncAct (A i)))) := Lib.hid (by rw [HS.out, HA.out, show max (left - 1) (-1) = left - 1 by omega]; rw [if_neg (by simp [layRef, thereRef]), if_neg (by omega)])
          have HI2 := Lib.hid (HI.out.setLeft (left - 1))
          have HB2 := Lib.hid (HB.out.setCell HI.out.hg (p := ⟨g, 1, none⟩) (.int .i64 (left - 1)))
          have hm1 : ¬ left = 0 := by omega
          have hm2 : max (left - 1) (-1) = left - 1 := by omega
          have hm3 : (-1 : Int) ≤ left - 1 := by omega
          clear HS
          go_wp2_with fail
          refine (sync1_calls i hi HA.out HI2.out HB2.out).mono ?_
          rintro e w3 ⟨rfl, h3, h4⟩
          have H3 := Lib.hid h3
          have H4 := Lib.hid h4
          clear h3 h4
          go_wp2_with fail
          go_ret
          rw [HS2.out]
          exact ⟨rfl, by first | exact H3.out | (rw [HA.out]; exact H3.out), H4.out⟩
end
end Go.Proofs.Ytahfcnbdladfbaa

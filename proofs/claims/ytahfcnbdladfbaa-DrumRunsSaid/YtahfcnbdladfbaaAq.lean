/- What the drum's laws share: one area alone, and that a fall keeps a part. Conditions: those that each theorem names. -/
import Derived.Test.YtahfcnbdladfbaaDg
import Derived.OpenShut
set_option linter.unusedVariables false
set_option linter.unusedSimpArgs false
namespace Go.Proofs.Ytahfcnbdladfbaa
open Go.RowKit Go.Proofs.YtahfcnbdladfbaaW.PrintWords

/-- One area alone. -/
def one (b : ByteArray) (s : Nat) : Nat → Ar := fun i => if i = 0 then some (b, s) else none
theorem one_upd (b b' : ByteArray) (s s' : Nat) : upd (one b s) 0 (some (b', s')) = one b' s' := by
  funext i
  by_cases h : i = 0
  · subst h; rfl
  · rw [upd_ne _ _ h]; simp [one, h]
theorem none_upd (b : ByteArray) (s : Nat) : upd (fun _ => (none : Ar)) 0 (some (b, s)) = one b s := by
  funext i
  by_cases h : i = 0
  · subst h; rfl
  · rw [upd_ne _ _ h]; simp [one, h]
theorem one_used (b : ByteArray) (s : Nat) : usedTo (one b s) 4 = b.size := by simp [usedTo, one, sz]
theorem one_lay : stepR (-1) false (fun _ => none) 0 layRef layAct = (0, -1, false, one ByteArray.empty 0) := by
  unfold stepR
  rw [if_neg (by decide), if_neg (by decide), if_neg (by decide), if_neg (by decide)]
  show ((0 : Int), max ((-1 : Int) - 1) (-1), false, upd (fun _ => (none : Ar)) 0 (some (ByteArray.empty, 0))) = _
  rw [none_upd]; rfl
theorem one_write (left l' : Int) (hm : max (left - 1) (-1) = l') (b x : ByteArray) (s : Nat) (room : Int) (h : ((b.size + x.size : Nat) : Int) ≤ room) (hl : left ≠ 0) : stepR left false (one b s) 0 (writeRef (usedTo (one b s) 4) x.size room) (writeAct x) = (0, l', false, one (b ++ x) s) := by
  subst hm
  have e : writeRef (usedTo (one b s) 4) x.size room (one b s (0 : Int).toNat) = 0 := by
    rw [one_used]; show (if ((b.size + x.size : Nat) : Int) ≤ room then (0 : Int) else 10) = 0; rw [if_pos h]
  unfold stepR
  rw [if_neg (by decide), if_neg (by decide), e, if_neg (by decide), if_neg hl]
  show ((0 : Int), max (left - 1) (-1), false, upd (one b s) 0 (some (b ++ x, s))) = _
  rw [one_upd]
theorem one_write0 (b x : ByteArray) (s : Nat) (room : Int) (h : ((b.size + x.size : Nat) : Int) ≤ room) : stepR 0 false (one b s) 0 (writeRef (usedTo (one b s) 4) x.size room) (writeAct x) = (11, 0, true, one b s) := by
  have e : writeRef (usedTo (one b s) 4) x.size room (one b s (0 : Int).toNat) = 0 := by
    rw [one_used]; show (if ((b.size + x.size : Nat) : Int) ≤ room then (0 : Int) else 10) = 0; rw [if_pos h]
  unfold stepR
  rw [if_neg (by decide), if_neg (by decide), e, if_neg (by decide), if_pos rfl]
theorem step_down (left : Int) (A : Nat → Ar) (n : Int) (f : Ar → Int) (h : Ar → Ar) : stepR left true A n f h = (11, left, true, A) := by unfold stepR; rw [if_pos rfl]
theorem one_sync (left l' : Int) (hm : max (left - 1) (-1) = l') (b : ByteArray) (s : Nat) (hl : left ≠ 0) : stepR left false (one b s) 0 thereRef syncAct = (0, l', false, one b b.size) := by
  subst hm
  have e : thereRef (one b s (0 : Int).toNat) = 0 := rfl
  unfold stepR
  rw [if_neg (by decide), if_neg (by decide), e, if_neg (by decide), if_neg hl]
  show ((0 : Int), max (left - 1) (-1), false, upd (one b s) 0 (some (b, b.size))) = _
  rw [one_upd]
theorem one_fall (xs : List Int) (b : ByteArray) (s : Nat) : fallTo xs (one b s) 4 = one (b.extract 0 (s + keepN xs 0 (b.size - s))) (b.extract 0 (s + keepN xs 0 (b.size - s))).size := by
  funext i
  unfold fallTo
  by_cases h : i = 0
  · subst h; rfl
  · have e : one b s i = none := by simp [one, h]
    have e2 : one (b.extract 0 (s + keepN xs 0 (b.size - s))) (b.extract 0 (s + keepN xs 0 (b.size - s))).size i = none := by simp [one, h]
    rw [e, e2]
    split <;> rfl
theorem one_read (b : ByteArray) (s : Nat) : readR false (one b s) 0 = (b, 0) := rfl
/-- What a slice that was just made holds. -/
theorem reads_lit (W : World) (x : Int) : ReadsInt (W.alloc (.cells #[.int .i64 x] 3)) .i64 (some ⟨W.heap.size, 0, none⟩) 1 [x] := by
  refine ⟨rfl, by decide, fun _ => ⟨_, rfl, fun j hj => ?_⟩⟩
  obtain rfl : j = 0 := by omega
  exact (blk_cell (heap_alloc_new W _) 0).trans rfl
theorem lit_far {X : Nat → Obj → Prop} {w0 W : World} {g : Nat} {room left : Int} {down : Bool} {A : Nat → Ar} {K : Nat → Nat} {V : Nat → Value} (h : IsD X w0 W g room left down A K V) (o : Obj) : ∀ ad, (some (⟨W.heap.size, 0, none⟩ : Addr)) = some ad → ∀ i, i < 4 → (A i).isSome = true → ad.block ≠ K i := by
  intro ad e i hi hs
  injection e with e
  subst e
  obtain ⟨⟨b, s⟩, hA⟩ := Option.isSome_iff_exists.1 hs
  have := lt_of_at (h.ha i hi b s hA).1
  show W.heap.size ≠ K i
  omega
theorem one_sb (b : ByteArray) (s : Nat) (h : s ≤ b.size) : ∀ i, i < 4 → ∀ b' s', one b s i = some (b', s') → s' ≤ b'.size := by
  intro i _ b' s' e
  by_cases hi : i = 0
  · subst hi
    injection e with e
    injection e with e1 e2
    subst e1 e2
    exact h
  · simp [one, hi] at e
theorem one_bz (b : ByteArray) (s : Nat) (h : b.size ≤ 9223372036854775807) : ∀ i, i < 4 → ∀ b' s', one b s i = some (b', s') → b'.size ≤ 9223372036854775807 := by
  intro i _ b' s' e
  by_cases hi : i = 0
  · subst hi
    injection e with e
    injection e with e1 e2
    subst e1 e2
    exact h
  · simp [one, hi] at e

set_option maxRecDepth 100000 in
set_option maxHeartbeats 4000000 in
theorem awake_calls (w : World) : Calls Try.prog 7 #[] w fun e w' => e = .returned (.bool true) ∧ Below w.heap.size w w' := by
  have HN := Lib.hid (new_calls 10 (by decide) w w (Below.refl _ _))
  go_enter Try.func7, Try.ntmps7
  go_wp2_with fail
  refine HN.out.mono ?_
  rintro e w1 ⟨hB, h⟩
  rw [if_neg (by decide)] at h
  obtain ⟨g, rfl, K, V, hI⟩ := h
  have HI1 := Lib.hid hI
  have HB1 := Lib.hid hB
  clear hI hB HN
  go_wp2_with fail
  refine (lay_calls 0 HI1.out HB1.out (by decide) (by decide)).mono ?_
  rw [one_lay]
  rintro e w2 ⟨rfl, ⟨K, V, hI⟩, hB⟩
  have HI2 := Lib.hid hI
  have HB2 := Lib.hid hB
  clear hI hB HI1 HB1
  go_wp2_with fail
  have E1 := Lib.hid (one_write (-1) (-1) (by decide) ByteArray.empty ⟨#[97, 98]⟩ 0 10 (by decide) (by decide))
  refine (write_calls 0 ⟨#[97, 98]⟩ HI2.out HB2.out (by decide) (by decide) (by rw [one_used]; decide) (by decide)).mono ?_
  rw [E1.out]
  rintro e w3 ⟨rfl, ⟨K, V, hI⟩, hB⟩
  have HI3 := Lib.hid hI
  have HB3 := Lib.hid hB
  clear hI hB HI2 HB2 E1
  go_wp2_with fail
  have E1 := Lib.hid (one_sync (-1) (-1) (by decide) (ByteArray.empty ++ ⟨#[97, 98]⟩) 0 (by decide))
  refine (sync_calls 0 HI3.out HB3.out (by decide) (by decide)).mono ?_
  rw [E1.out]
  rintro e w4 ⟨rfl, ⟨K, V, hI⟩, hB⟩
  have HI4 := Lib.hid hI
  have HB4 := Lib.hid hB
  clear hI hB HI3 HB3 E1
  go_wp2_with fail
  have E1 := Lib.hid (one_write (-1) (-1) (by decide) (ByteArray.empty ++ ⟨#[97, 98]⟩) ⟨#[99, 100]⟩ (ByteArray.empty ++ ⟨#[97, 98]⟩ : ByteArray).size 10 (by decide) (by decide))
  refine (write_calls 0 ⟨#[99, 100]⟩ HI4.out HB4.out (by decide) (by decide) (by rw [one_used]; decide) (by decide)).mono ?_
  rw [E1.out]
  rintro e w5 ⟨rfl, ⟨K, V, hI⟩, hB⟩
  have HI5 := Lib.hid (show IsD NoX w w5 g 10 (-1) false (one ⟨#[97, 98, 99, 100]⟩ 2) K V from hI)
  have HB5 := Lib.hid hB
  clear hI hB HI4 HB4 E1
  go_wp2_with fail
  refine (fall_calls [1] (some ⟨w5.heap.size, 0, none⟩) 1 (by decide) (HI5.out.alloc _) (below_alloc' HB5.out _) (reads_lit w5 1) (fun ad h _ => lit_far HI5.out (.cells #[.int .i64 1] 3) ad h) (one_sb _ _ (by decide)) (one_bz _ _ (by decide))).mono ?_
  rintro e w6 ⟨rfl, ⟨V2, hI⟩, hB⟩
  rw [one_fall] at hI
  have HI6 := Lib.hid (show IsD NoX w w6 g 10 (-1) false (one ⟨#[97, 98, 99]⟩ 3) K V2 from hI)
  have HB6 := Lib.hid hB
  clear hI hB HI5 HB5
  go_wp2_with fail
  refine (read_calls 0 HI6.out HB6.out (by decide)).mono ?_
  rw [one_read]
  rintro e w7 ⟨rfl, hI, hB⟩
  have HB7 := Lib.hid hB
  clear hI hB HI6 HB6
  go_wp2_with fail
  go_ret
  exact ⟨rfl, HB7.out⟩
end Go.Proofs.Ytahfcnbdladfbaa

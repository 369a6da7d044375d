/- The walk of DrumFuel: with so much fuel a drum does just so many steps, and then is down till it falls. Condition: what the arguments' types demand. -/
import Derived.Test.YtahfcnbdladfbaaDg
import Derived.OpenShut
set_option linter.unusedVariables false
set_option linter.unusedSimpArgs false
namespace Go.Proofs.Ytahfcnbdladfbaa
open Go.RowKit Go.Proofs.YtahfcnbdladfbaaW.PrintWords

/-- One area alone. -/
def one (b : ByteArray) (s : Nat) : Nat → Ar := fun i => if i = 0 then some (b, s) else none
theorem one_upd (b b' : ByteArray) (s s' : Nat) : upd (one b s) 0 (some (b', s')) = one b' s' := by
  funext i
  by_cases h : i = 0
  · subst h; rfl
  · rw [upd_ne _ _ h]; simp [one, h]
theorem none_upd (b : ByteArray) (s : Nat) : upd (fun _ => (none : Ar)) 0 (some (b, s)) = one b s := by
  funext i
  by_cases h : i = 0
  · subst h; rfl
  · rw [upd_ne _ _ h]; simp [one, h]
theorem one_used (b : ByteArray) (s : Nat) : usedTo (one b s) 4 = b.size := by simp [usedTo, one, sz]
theorem one_lay : stepR (-1) false (fun _ => none) 0 layRef layAct = (0, -1, false, one ByteArray.empty 0) := by
  unfold stepR
  rw [if_neg (by decide), if_neg (by decide), if_neg (by decide), if_neg (by decide)]
  show ((0 : Int), max ((-1 : Int) - 1) (-1), false, upd (fun _ => (none : Ar)) 0 (some (ByteArray.empty, 0))) = _
  rw [none_upd]; rfl
theorem one_write (left l' : Int) (hm : max (left - 1) (-1) = l') (b x : ByteArray) (s : Nat) (room : Int) (h : ((b.size + x.size : Nat) : Int) ≤ room) (hl : left ≠ 0) : stepR left false (one b s) 0 (writeRef (usedTo (one b s) 4) x.size room) (writeAct x) = (0, l', false, one (b ++ x) s) := by
  subst hm
  have e : writeRef (usedTo (one b s) 4) x.size room (one b s (0 : Int).toNat) = 0 := by
    rw [one_used]; show (if ((b.size + x.size : Nat) : Int) ≤ room then (0 : Int) else 10) = 0; rw [if_pos h]
  unfold stepR
  rw [if_neg (by decide), if_neg (by decide), e, if_neg (by decide), if_neg hl]
  show ((0 : Int), max (left - 1) (-1), false, upd (one b s) 0 (some (b ++ x, s))) = _
  rw [one_upd]
theorem one_write0 (b x : ByteArray) (s : Nat) (room : Int) (h : ((b.size + x.size : Nat) : Int) ≤ room) : stepR 0 false (one b s) 0 (writeRef (usedTo (one b s) 4) x.size room) (writeAct x) = (11, 0, true, one b s) := by
  have e : writeRef (usedTo (one b s) 4) x.size room (one b s (0 : Int).toNat) = 0 := by
    rw [one_used]; show (if ((b.size + x.size : Nat) : Int) ≤ room then (0 : Int) else 10) = 0; rw [if_pos h]
  unfold stepR
  rw [if_neg (by decide), if_neg (by decide), e, if_neg (by decide), if_pos rfl]
theorem step_down (left : Int) (A : Nat → Ar) (n : Int) (f : Ar → Int) (h : Ar → Ar) : stepR left true A n f h = (11, left, true, A) := by unfold stepR; rw [if_pos rfl]
theorem one_sync (left l' : Int) (hm : max (left - 1) (-1) = l') (b : ByteArray) (s : Nat) (hl : left ≠ 0) : stepR left false (one b s) 0 thereRef syncAct = (0, l', false, one b b.size) := by
  subst hm
  have e : thereRef (one b s (0 : Int).toNat) = 0 := rfl
  unfold stepR
  rw [if_neg (by decide), if_neg (by decide), e, if_neg (by decide), if_neg hl]
  show ((0 : Int), max (left - 1) (-1), false, upd (one b s) 0 (some (b, b.size))) = _
  rw [one_upd]
theorem one_fall (xs : List Int) (b : ByteArray) (s : Nat) : fallTo xs (one b s) 4 = one (b.extract 0 (s + keepN xs 0 (b.size - s))) (b.extract 0 (s + keepN xs 0 (b.size - s))).size := by
  funext i
  unfold fallTo
  by_cases h : i = 0
  · subst h; rfl
  · have e : one b s i = none := by simp [one, h]
    have e2 : one (b.extract 0 (s + keepN xs 0 (b.size - s))) (b.extract 0 (s + keepN xs 0 (b.size - s))).size i = none := by simp [one, h]
    rw [e, e2]
    split <;> rfl
theorem one_read (b : ByteArray) (s : Nat) : readR false (one b s) 0 = (b, 0) := rfl
/-- What a slice that was just made holds. -/
theorem reads_lit (W : World) (x : Int) : ReadsInt (W.alloc (.cells #[.int .i64 x] 3)) .i64 (some ⟨W.heap.size, 0, none⟩) 1 [x] := by
  refine ⟨rfl, by decide, fun _ => ⟨_, rfl, fun j hj => ?_⟩⟩
  obtain rfl : j = 0 := by omega
  exact (blk_cell (heap_alloc_new W _) 0).trans rfl
theorem lit_far {w0 W : World} {g : Nat} {room left : Int} {down : Bool} {A : Nat → Ar} {K : Nat → Nat} {V : Nat → Value} (h : IsD w0 W g room left down A K V) (o : Obj) : ∀ ad, (some (⟨W.heap.size, 0, none⟩ : Addr)) = some ad → ∀ i, i < 4 → (A i).isSome = true → ad.block ≠ K i := by
  intro ad e i hi hs
  injection e with e
  subst e
  obtain ⟨⟨b, s⟩, hA⟩ := Option.isSome_iff_exists.1 hs
  have := lt_of_at (h.ha i hi b s hA).1
  show W.heap.size ≠ K i
  omega
theorem one_sb (b : ByteArray) (s : Nat) (h : s ≤ b.size) : ∀ i, i < 4 → ∀ b' s', one b s i = some (b', s') → s' ≤ b'.size := by
  intro i _ b' s' e
  by_cases hi : i = 0
  · subst hi
    injection e with e
    injection e with e1 e2
    subst e1 e2
    exact h
  · simp [one, hi] at e
theorem one_bz (b : ByteArray) (s : Nat) (h : b.size ≤ 9223372036854775807) : ∀ i, i < 4 → ∀ b' s', one b s i = some (b', s') → b'.size ≤ 9223372036854775807 := by
  intro i _ b' s' e
  by_cases hi : i = 0
  · subst hi
    injection e with e
    injection e with e1 e2
    subst e1 e2
    exact h
  · simp [one, hi] at e

set_option maxRecDepth 100000 in
set_option maxHeartbeats 4000000 in
theorem awake_calls (w : World) : Calls Try.prog 7 #[] w fun e w' => e = .returned (.bool true) ∧ Below w.heap.size w w' := by
  have HN := Lib.hid (new_calls 10 (by decide) w w (Below.refl _ _))
  go_enter Try.func7, Try.ntmps7
  go_wp2_with fail
  refine HN.out.mono ?_
  rintro e w1 ⟨hB, h⟩
  rw [if_neg (by decide)] at h
  obtain ⟨g, rfl, K, V, hI⟩ := h
  have HI1 := Lib.hid hI
  have HB1 := Lib.hid hB
  clear hI hB HN
  go_wp2_with fail
  refine (lay_calls 0 HI1.out HB1.out (by decide) (by decide)).mono ?_
  rw [one_lay]
  rintro e w2 ⟨rfl, ⟨K, V, hI⟩, hB⟩
  have HI2 := Lib.hid hI
  have HB2 := Lib.hid hB
  clear hI hB HI1 HB1
  go_wp2_with fail
  have E1 := Lib.hid (one_write (-1) (-1) (by decide) ByteArray.empty ⟨#[97, 98]⟩ 0 10 (by decide) (by decide))
  refine (write_calls 0 ⟨#[97, 98]⟩ HI2.out HB2.out (by decide) (by decide) (by rw [one_used]; decide)).mono ?_
  rw [E1.out]
  rintro e w3 ⟨rfl, ⟨K, V, hI⟩, hB⟩
  have HI3 := Lib.hid hI
  have HB3 := Lib.hid hB
  clear hI hB HI2 HB2 E1
  go_wp2_with fail
  have E1 := Lib.hid (one_sync (-1) (-1) (by decide) (ByteArray.empty ++ ⟨#[97, 98]⟩) 0 (by decide))
  refine (sync_calls 0 HI3.out HB3.out (by decide) (by decide)).mono ?_
  rw [E1.out]
  rintro e w4 ⟨rfl, ⟨K, V, hI⟩, hB⟩
  have HI4 := Lib.hid hI
  have HB4 := Lib.hid hB
  clear hI hB HI3 HB3 E1
  go_wp2_with fail
  have E1 := Lib.hid (one_write (-1) (-1) (by decide) (ByteArray.empty ++ ⟨#[97, 98]⟩) ⟨#[99, 100]⟩ (ByteArray.empty ++ ⟨#[97, 98]⟩ : ByteArray).size 10 (by decide) (by decide))
  refine (write_calls 0 ⟨#[99, 100]⟩ HI4.out HB4.out (by decide) (by decide) (by rw [one_used]; decide)).mono ?_
  rw [E1.out]
  rintro e w5 ⟨rfl, ⟨K, V, hI⟩, hB⟩
  have HI5 := Lib.hid (show IsD w w5 g 10 (-1) false (one ⟨#[97, 98, 99, 100]⟩ 2) K V from hI)
  have HB5 := Lib.hid hB
  clear hI hB HI4 HB4 E1
  go_wp2_with fail
  refine (fall_calls [1] (some ⟨w5.heap.size, 0, none⟩) 1 (by decide) (HI5.out.alloc _) (below_alloc' HB5.out _) (reads_lit w5 1) (lit_far HI5.out (.cells #[.int .i64 1] 3)) (one_sb _ _ (by decide)) (one_bz _ _ (by decide))).mono ?_
  rintro e w6 ⟨rfl, ⟨V2, hI⟩, hB⟩
  rw [one_fall] at hI
  have HI6 := Lib.hid (show IsD w w6 g 10 (-1) false (one ⟨#[97, 98, 99]⟩ 3) K V2 from hI)
  have HB6 := Lib.hid hB
  clear hI hB HI5 HB5
  go_wp2_with fail
  refine (read_calls 0 HI6.out HB6.out (by decide)).mono ?_
  rw [one_read]
  rintro e w7 ⟨rfl, hI, hB⟩
  have HB7 := Lib.hid hB
  clear hI hB HI6 HB6
  go_wp2_with fail
  go_ret
  exact ⟨rfl, HB7.out⟩
/-- So many bytes, all alike. -/
def exes (k : Nat) : ByteArray := ⟨Array.replicate k 120⟩
theorem exes_size (k : Nat) : (exes k).size = k := by show (Array.replicate k (120 : UInt8)).size = k; simp
theorem exes_zero : exes 0 = ByteArray.empty := rfl
theorem exes_succ (k : Nat) : exes k ++ ⟨#[120]⟩ = exes (k + 1) := by
  apply bytes_ext
  rw [bytesOf_append]
  unfold bytesOf exes
  simp [List.replicate_succ']
theorem exes_keep (d : Nat) (h : d ≤ 1000) : (exes d).extract 0 (0 + keepN [1099511627776] 0 (d - 0)) = exes d := by
  have e : keepN [1099511627776] 0 (d - 0) = d := by
    unfold keepN
    rw [if_pos (by decide)]
    show (min (max (1099511627776 : Int) 0) ((d - 0 : Nat) : Int)).toNat = d
    omega
  rw [e, Nat.zero_add]
  have := ByteArray.extract_zero_size (b := exes d)
  rwa [exes_size] at this
set_option maxRecDepth 100000 in
set_option maxHeartbeats 8000000 in
theorem walk_DrumFuel (n t : Int) (hn : (Lit.int .i64 n).wf = true) (ht : (Lit.int .i64 t).wf = true) (w : World) :
    Calls Try.prog 3 #[.int .i64 n, .int .i64 t] w fun e w' => e = .returned (.bool true) ∧ Below w.heap.size w w' := by
  have hn2 := Go.bounds_i64 hn
  have ht2 := Go.bounds_i64 ht
  clear hn ht
  have HA := Lib.hid (awake_calls w)
  go_enter Try.func3, Try.ntmps3
  go_wp2_with fail
  refine HA.out.mono ?_
  rintro e w0 ⟨rfl, hB⟩
  have HB0 := Lib.hid hB
  clear hB HA
  rcases (show n < 0 ∨ (0 ≤ n ∧ 50 < n) ∨ (0 ≤ n ∧ n ≤ 50 ∧ t < 0) ∨ (0 ≤ n ∧ n ≤ 50 ∧ 0 ≤ t ∧ 100 < t) ∨ (0 ≤ n ∧ n ≤ 50 ∧ 0 ≤ t ∧ t ≤ 100) by omega) with h1 | ⟨h1, h2⟩ | ⟨h1, h2, h3⟩ | ⟨h1, h2, h3, h4⟩ | ⟨h1, h2, h3, h4⟩
  · go_wp2_with fail
    go_ret
    exact ⟨rfl, HB0.out⟩
  · go_wp2_with fail
    go_ret
    exact ⟨rfl, HB0.out⟩
  · go_wp2_with fail
    go_ret
    exact ⟨rfl, HB0.out⟩
  · go_wp2_with fail
    go_ret
    exact ⟨rfl, HB0.out⟩
  · obtain ⟨N, rfl⟩ : ∃ N : Nat, n = (N : Int) := ⟨n.toNat, by omega⟩
    obtain ⟨T, rfl⟩ : ∃ T : Nat, t = (T : Int) := ⟨t.toNat, by omega⟩
    have hN : N ≤ 50 := by omega
    have hT : T ≤ 100 := by omega
    have HN := Lib.hid (new_calls 1000 (by decide) w w0 HB0.out)
    go_wp2_with fail
    refine HN.out.mono ?_
    rintro e w1 ⟨hB, h⟩
    rw [if_neg (by decide)] at h
    obtain ⟨g, rfl, K, V, hI⟩ := h
    have HI1 := Lib.hid hI
    have HB1 := Lib.hid hB
    clear hI hB HN HB0
    go_wp2_with fail
    refine (lay_calls 0 HI1.out HB1.out (by decide) (by decide)).mono ?_
    rw [one_lay]
    rintro e w2 ⟨rfl, ⟨K, V, hI⟩, hB⟩
    have HI2 := Lib.hid hI
    have HB2 := Lib.hid hB
    clear hI hB HI1 HB1
    go_wp2_with fail
    refine (fuel_calls (N : Int) HI2.out HB2.out).mono ?_
    rintro e w3 ⟨rfl, hI, hB⟩
    have HI3 := Lib.hid (show IsD w w3 g 1000 (N : Int) false (one (exes 0) 0) K V by rw [show max (N : Int) (-1) = (N : Int) by omega] at hI; exact hI)
    have HB3 := Lib.hid hB
    clear hI hB HI2 HB2 h1 h3
    go_wp2_with fail
    go_loopg [7, 34] (T + 1) (fun gk v7 v34 wr => ∃ (i : Nat) (K : Nat → Nat) (V : Nat → Value), i ≤ T ∧ v7 = .int .i64 ((min i N : Nat) : Int) ∧ v34 = .int .i64 (i : Int) ∧ Aside0 (i + gk = T + 1) ∧ Aside0 (IsD w wr g 1000 ((N - min i N : Nat) : Int) (decide (N < i)) (one (exes (min i N)) 0) K V ∧ Below w.heap.size w wr))
    case atStart => exact ⟨0, K, V, Nat.zero_le _, by rw [Nat.zero_min]; rfl, rfl, ⟨by omega⟩, ⟨by rw [Nat.zero_min, show decide (N < 0) = false from decide_eq_false (by omega)]; exact HI3.out, HB3.out⟩⟩
    case round =>
      obtain ⟨i, K, V, hi, rfl, rfl, ⟨hg⟩, ⟨hI, hB⟩⟩ := hrel
      have HI := Lib.hid hI
      have HB := Lib.hid hB
      have HG := Lib.hid hg
      clear hI hB hg HI3 HB3
      rcases (show (i < T ∧ i < N) ∨ (i < T ∧ i = N) ∨ (i < T ∧ N < i) ∨ i = T by omega) with ⟨hlt, hc⟩ | ⟨hlt, hc⟩ | ⟨hlt, hc⟩ | hlt
      · rw [show min i N = i by omega, show decide (N < i) = false from decide_eq_false (by omega)] at HI
        rw [show min i N = i by omega]
        have E1 := Lib.hid (one_write ((N - i : Nat) : Int) ((N - (i + 1) : Nat) : Int) (by omega) (exes i) ⟨#[120]⟩ 0 1000 (by rw [exes_size]; show ((i + 1 : Nat) : Int) ≤ 1000; omega) (by omega))
        go_wp2_with fail
        refine (write_calls 0 ⟨#[120]⟩ HI.out HB.out (by omega) (by decide) (by rw [one_used, exes_size]; show _ + 1 ≤ _; omega)).mono ?_
        rw [E1.out]
        rintro e w5 ⟨rfl, ⟨K, V, hI⟩, hB⟩
        have HI5 := Lib.hid hI
        have HB5 := Lib.hid hB
        clear hI hB HI HB E1
        go_wp2
        go_roundg (gk - 1)
        case measure => have := HG.out; omega
        case rel => exact ⟨i + 1, K, V, by omega, by rw [show min (i + 1) N = i + 1 by omega]; go_num, by go_num, ⟨by have := HG.out; omega⟩, ⟨by rw [show min (i + 1) N = i + 1 by omega, show decide (N < i + 1) = false from decide_eq_false (by omega), ← exes_succ]; exact HI5.out, HB5.out⟩⟩
      · subst hc
        · rw [show min i i = i by omega, show decide (i < i) = false from decide_eq_false (by omega), show ((i - i : Nat) : Int) = 0 by omega] at HI
          rw [show min i i = i by omega]
          have E1 := Lib.hid (one_write0 (exes i) ⟨#[120]⟩ 0 1000 (by rw [exes_size]; show ((i + 1 : Nat) : Int) ≤ 1000; omega))
          go_wp2_with fail
          refine (write_calls 0 ⟨#[120]⟩ HI.out HB.out (by omega) (by decide) (by rw [one_used, exes_size]; show _ + 1 ≤ _; omega)).mono ?_
          rw [E1.out]
          rintro e w5 ⟨rfl, ⟨K, V, hI⟩, hB⟩
          have HI5 := Lib.hid (show IsD w w5 g 1000 0 true (one (exes i) 0) K V from hI)
          have HB5 := Lib.hid hB
          clear hI hB HI HB E1
          go_wp2_with fail
          refine (down_calls HI5.out).mono ?_
          rintro e w6 ⟨rfl, rfl⟩
          go_wp2_with fail
          refine (write_calls 0 ⟨#[121]⟩ HI5.out HB5.out (by omega) (by decide) (by rw [one_used, exes_size]; show _ + 1 ≤ _; omega)).mono ?_
          rw [step_down]
          rintro e w7 ⟨rfl, ⟨K, V, hI⟩, hB⟩
          have HI7 := Lib.hid hI
          have HB7 := Lib.hid hB
          clear hI hB HI5 HB5
          go_wp2_with fail
          refine (lay_calls 2 HI7.out HB7.out (by omega) (by decide)).mono ?_
          rw [step_down]
          rintro e w8 ⟨rfl, ⟨K, V, hI⟩, hB⟩
          have HI8 := Lib.hid hI
          have HB8 := Lib.hid hB
          clear hI hB HI7 HB7
          go_wp2_with fail
          refine (sync_calls 0 HI8.out HB8.out (by omega) (by decide)).mono ?_
          rw [step_down]
          rintro e w9 ⟨rfl, ⟨K, V, hI⟩, hB⟩
          have HI9 := Lib.hid hI
          have HB9 := Lib.hid hB
          clear hI hB HI8 HB8
          go_wp2
          go_roundg (gk - 1)
          case measure => have := HG.out; omega
          case rel => exact ⟨i + 1, K, V, by omega, by rw [show min (i + 1) i = i by omega], by go_num, ⟨by have := HG.out; omega⟩, ⟨by rw [show min (i + 1) i = i by omega, show decide (i < i + 1) = true from decide_eq_true (by omega), show ((i - i : Nat) : Int) = 0 by omega]; exact HI9.out, HB9.out⟩⟩
      · · rw [show min i N = N by omega, show decide (N < i) = true from decide_eq_true (by omega), show ((N - N : Nat) : Int) = 0 by omega] at HI
          rw [show min i N = N by omega]
          go_wp2_with fail
          refine (write_calls 0 ⟨#[120]⟩ HI.out HB.out (by omega) (by decide) (by rw [one_used, exes_size]; show _ + 1 ≤ _; omega)).mono ?_
          rw [step_down]
          rintro e w5 ⟨rfl, ⟨K, V, hI⟩, hB⟩
          have HI5 := Lib.hid hI
          have HB5 := Lib.hid hB
          clear hI hB HI HB
          go_wp2_with fail
          refine (down_calls HI5.out).mono ?_
          rintro e w6 ⟨rfl, rfl⟩
          go_wp2_with fail
          refine (write_calls 0 ⟨#[121]⟩ HI5.out HB5.out (by omega) (by decide) (by rw [one_used, exes_size]; show _ + 1 ≤ _; omega)).mono ?_
          rw [step_down]
          rintro e w7 ⟨rfl, ⟨K, V, hI⟩, hB⟩
          have HI7 := Lib.hid hI
          have HB7 := Lib.hid hB
          clear hI hB HI5 HB5
          go_wp2_with fail
          refine (lay_calls 2 HI7.out HB7.out (by omega) (by decide)).mono ?_
          rw [step_down]
          rintro e w8 ⟨rfl, ⟨K, V, hI⟩, hB⟩
          have HI8 := Lib.hid hI
          have HB8 := Lib.hid hB
          clear hI hB HI7 HB7
          go_wp2_with fail
          refine (sync_calls 0 HI8.out HB8.out (by omega) (by decide)).mono ?_
          rw [step_down]
          rintro e w9 ⟨rfl, ⟨K, V, hI⟩, hB⟩
          have HI9 := Lib.hid hI
          have HB9 := Lib.hid hB
          clear hI hB HI8 HB8
          go_wp2
          go_roundg (gk - 1)
          case measure => have := HG.out; omega
          case rel => exact ⟨i + 1, K, V, by omega, by rw [show min (i + 1) N = N by omega], by go_num, ⟨by have := HG.out; omega⟩, ⟨by rw [show min (i + 1) N = N by omega, show decide (N < i + 1) = true from decide_eq_true (by omega), show ((N - N : Nat) : Int) = 0 by omega]; exact HI9.out, HB9.out⟩⟩
      · subst hlt
        clear HG
        rcases (show N < i ∨ i ≤ N by omega) with hc | hc
        · rw [show min i N = N by omega, show decide (N < i) = true from decide_eq_true hc, show ((N - N : Nat) : Int) = 0 by omega] at HI
          rw [show min i N = N by omega]
          have hm1 : min (N : Int) (i : Int) = (N : Int) := by omega
          have hm2 : (N : Int) < (i : Int) := by omega
          have hu := one_used (exes N) 0
          rw [exes_size] at hu
          have HU := Lib.hid hu
          clear hu
          go_wp2_with fail
          refine (down_calls HI.out).mono ?_
          rintro e w5 ⟨rfl, rfl⟩
          go_wp2_with fail
          refine (used_calls HI.out HB.out (by rw [HU.out]; omega)).mono ?_
          rw [HU.out]
          rintro e w6 ⟨rfl, ⟨m, rfl⟩⟩
          have HI6 := Lib.hid (show IsD w (w5.drewN m) g 1000 0 true (one (exes N) 0) K V from HI.out.move fun _ _ => rfl)
          have HB6 := Lib.hid (pw_below_drewN HB.out m)
          clear HI HB
          generalize w5.drewN m = w6 at *
          go_wp2_with fail
          refine (fall_calls [1099511627776] (some ⟨w6.heap.size, 0, none⟩) 1 (by decide) (HI6.out.alloc _) (below_alloc' HB6.out _) (reads_lit w6 1099511627776) (lit_far HI6.out (.cells #[.int .i64 1099511627776] 3)) (one_sb _ _ (Nat.zero_le _)) (one_bz _ _ (by rw [exes_size]; omega))).mono ?_
          rintro e w7 ⟨rfl, ⟨V2, hI⟩, hB⟩
          rw [one_fall, exes_size, exes_keep N (by omega)] at hI
          have HI7 := Lib.hid hI
          have HB7 := Lib.hid hB
          clear hI hB HI6 HB6
          have hu := one_used (exes N) (exes N).size
          rw [exes_size] at hu
          have HU2 : Hid (usedTo (one (exes N) (exes N).size) 4 = N) := Lib.hid (by rw [exes_size]; exact hu)
          clear hu
          go_wp2_with fail
          refine (down_calls HI7.out).mono ?_
          rintro e w8 ⟨rfl, rfl⟩
          go_wp2_with fail
          refine (used_calls HI7.out HB7.out (by rw [HU2.out]; omega)).mono ?_
          rw [HU2.out]
          rintro e w9 ⟨rfl, ⟨m2, rfl⟩⟩
          have HI9 := Lib.hid (show IsD w (w8.drewN m2) g 1000 (-1) false (one (exes N) (exes N).size) K V2 from HI7.out.move fun _ _ => rfl)
          have HB9 := Lib.hid (pw_below_drewN HB7.out m2)
          clear HI7 HB7
          generalize w8.drewN m2 = w9 at *
          have E1 := Lib.hid (one_write (-1) (-1) (by decide) (exes N) ⟨#[122]⟩ (exes N).size 1000 (by rw [exes_size]; show ((N + 1 : Nat) : Int) ≤ 1000; omega) (by decide))
          go_wp2_with fail
          refine (write_calls 0 ⟨#[122]⟩ HI9.out HB9.out (by decide) (by decide) (by rw [HU2.out]; show _ + 1 ≤ _; omega)).mono ?_
          rw [E1.out]
          rintro e w10 ⟨rfl, ⟨K3, V3, hI⟩, hB⟩
          have HB10 := Lib.hid hB
          clear hI hB HI9 HB9 E1
          go_wp2
          go_ret
          exact ⟨rfl, HB10.out⟩
        · rw [show min i N = i by omega, show decide (N < i) = false from decide_eq_false (by omega)] at HI
          rw [show min i N = i by omega]
          have hm1 : min (N : Int) (i : Int) = (i : Int) := by omega
          have hm2 : (i : Int) ≤ (N : Int) := by omega
          rcases (show (i : Int) < (N : Int) ∨ ¬ (i : Int) < (N : Int) by omega) with hlt2 | hlt2
          · have hu := one_used (exes i) 0
            rw [exes_size] at hu
            have HU := Lib.hid hu
            clear hu
            go_wp2_with fail
            refine (down_calls HI.out).mono ?_
            rintro e w5 ⟨rfl, rfl⟩
            go_wp2_with fail
            refine (used_calls HI.out HB.out (by rw [HU.out]; omega)).mono ?_
            rw [HU.out]
            rintro e w6 ⟨rfl, ⟨m, rfl⟩⟩
            have HI6 := Lib.hid (show IsD w (w5.drewN m) g 1000 ((N - i : Nat) : Int) false (one (exes i) 0) K V from HI.out.move fun _ _ => rfl)
            have HB6 := Lib.hid (pw_below_drewN HB.out m)
            clear HI HB
            generalize w5.drewN m = w6 at *
            go_wp2_with fail
            refine (fall_calls [1099511627776] (some ⟨w6.heap.size, 0, none⟩) 1 (by decide) (HI6.out.alloc _) (below_alloc' HB6.out _) (reads_lit w6 1099511627776) (lit_far HI6.out (.cells #[.int .i64 1099511627776] 3)) (one_sb _ _ (Nat.zero_le _)) (one_bz _ _ (by rw [exes_size]; omega))).mono ?_
            rintro e w7 ⟨rfl, ⟨V2, hI⟩, hB⟩
            rw [one_fall, exes_size, exes_keep i (by omega)] at hI
            have HI7 := Lib.hid hI
            have HB7 := Lib.hid hB
            clear hI hB HI6 HB6
            have hu := one_used (exes i) (exes i).size
            rw [exes_size] at hu
            have HU2 : Hid (usedTo (one (exes i) (exes i).size) 4 = i) := Lib.hid (by rw [exes_size]; exact hu)
            clear hu
            go_wp2_with fail
            refine (down_calls HI7.out).mono ?_
            rintro e w8 ⟨rfl, rfl⟩
            go_wp2_with fail
            refine (used_calls HI7.out HB7.out (by rw [HU2.out]; omega)).mono ?_
            rw [HU2.out]
            rintro e w9 ⟨rfl, ⟨m2, rfl⟩⟩
            have HI9 := Lib.hid (show IsD w (w8.drewN m2) g 1000 (-1) false (one (exes i) (exes i).size) K V2 from HI7.out.move fun _ _ => rfl)
            have HB9 := Lib.hid (pw_below_drewN HB7.out m2)
            clear HI7 HB7
            generalize w8.drewN m2 = w9 at *
            have E1 := Lib.hid (one_write (-1) (-1) (by decide) (exes i) ⟨#[122]⟩ (exes i).size 1000 (by rw [exes_size]; show ((i + 1 : Nat) : Int) ≤ 1000; omega) (by decide))
            go_wp2_with fail
            refine (write_calls 0 ⟨#[122]⟩ HI9.out HB9.out (by decide) (by decide) (by rw [HU2.out]; show _ + 1 ≤ _; omega)).mono ?_
            rw [E1.out]
            rintro e w10 ⟨rfl, ⟨K3, V3, hI⟩, hB⟩
            have HB10 := Lib.hid hB
            clear hI hB HI9 HB9 E1
            go_wp2
            go_ret
            exact ⟨rfl, HB10.out⟩
          · have hu := one_used (exes i) 0
            rw [exes_size] at hu
            have HU := Lib.hid hu
            clear hu
            go_wp2_with fail
            refine (down_calls HI.out).mono ?_
            rintro e w5 ⟨rfl, rfl⟩
            go_wp2_with fail
            refine (used_calls HI.out HB.out (by rw [HU.out]; omega)).mono ?_
            rw [HU.out]
            rintro e w6 ⟨rfl, ⟨m, rfl⟩⟩
            have HI6 := Lib.hid (show IsD w (w5.drewN m) g 1000 ((N - i : Nat) : Int) false (one (exes i) 0) K V from HI.out.move fun _ _ => rfl)
            have HB6 := Lib.hid (pw_below_drewN HB.out m)
            clear HI HB
            generalize w5.drewN m = w6 at *
            go_wp2_with fail
            refine (fall_calls [1099511627776] (some ⟨w6.heap.size, 0, none⟩) 1 (by decide) (HI6.out.alloc _) (below_alloc' HB6.out _) (reads_lit w6 1099511627776) (lit_far HI6.out (.cells #[.int .i64 1099511627776] 3)) (one_sb _ _ (Nat.zero_le _)) (one_bz _ _ (by rw [exes_size]; omega))).mono ?_
            rintro e w7 ⟨rfl, ⟨V2, hI⟩, hB⟩
            rw [one_fall, exes_size, exes_keep i (by omega)] at hI
            have HI7 := Lib.hid hI
            have HB7 := Lib.hid hB
            clear hI hB HI6 HB6
            have hu := one_used (exes i) (exes i).size
            rw [exes_size] at hu
            have HU2 : Hid (usedTo (one (exes i) (exes i).size) 4 = i) := Lib.hid (by rw [exes_size]; exact hu)
            clear hu
            go_wp2_with fail
            refine (down_calls HI7.out).mono ?_
            rintro e w8 ⟨rfl, rfl⟩
            go_wp2_with fail
            refine (used_calls HI7.out HB7.out (by rw [HU2.out]; omega)).mono ?_
            rw [HU2.out]
            rintro e w9 ⟨rfl, ⟨m2, rfl⟩⟩
            have HI9 := Lib.hid (show IsD w (w8.drewN m2) g 1000 (-1) false (one (exes i) (exes i).size) K V2 from HI7.out.move fun _ _ => rfl)
            have HB9 := Lib.hid (pw_below_drewN HB7.out m2)
            clear HI7 HB7
            generalize w8.drewN m2 = w9 at *
            have E1 := Lib.hid (one_write (-1) (-1) (by decide) (exes i) ⟨#[122]⟩ (exes i).size 1000 (by rw [exes_size]; show ((i + 1 : Nat) : Int) ≤ 1000; omega) (by decide))
            go_wp2_with fail
            refine (write_calls 0 ⟨#[122]⟩ HI9.out HB9.out (by decide) (by decide) (by rw [HU2.out]; show _ + 1 ≤ _; omega)).mono ?_
            rw [E1.out]
            rintro e w10 ⟨rfl, ⟨K3, V3, hI⟩, hB⟩
            have HB10 := Lib.hid hB
            clear hI hB HI9 HB9 E1
            go_wp2
            go_ret
            exact ⟨rfl, HB10.out⟩
end Go.Proofs.Ytahfcnbdladfbaa

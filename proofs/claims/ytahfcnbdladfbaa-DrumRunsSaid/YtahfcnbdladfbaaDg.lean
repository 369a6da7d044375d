/- The drum's Fall. Conditions: those that the theorem names. -/
import Derived.Test.YtahfcnbdladfbaaDf
set_option linter.unusedVariables false
set_option linter.unusedSimpArgs false
namespace Go.Proofs.Ytahfcnbdladfbaa
open Go.RowKit Go.Proofs.YtahfcnbdladfbaaW.PrintWords

/-- How many pending bytes are kept, of so many. -/
def keepN (xs : List Int) (i : Nat) (pend : Nat) : Nat := if i < xs.length then (min (max (rd xs (i : Int)) 0) (pend : Int)).toNat else 0
def fallA (xs : List Int) (i : Nat) (a : Ar) : Ar := a.map fun x => (x.1.extract 0 (x.2 + keepN xs i (x.1.size - x.2)), (x.1.extract 0 (x.2 + keepN xs i (x.1.size - x.2))).size)
/-- Behind the first i areas. -/
def fallTo (xs : List Int) (A : Nat → Ar) (i : Nat) : Nat → Ar := fun j => if j < i then fallA xs j (A j) else A j
theorem fallTo_zero (xs : List Int) (A : Nat → Ar) : fallTo xs A 0 = A := by funext j; exact if_neg (by omega)
theorem fallTo_at (xs : List Int) (A : Nat → Ar) (i : Nat) : fallTo xs A i i = A i := if_neg (by omega)
theorem fallTo_succ (xs : List Int) (A : Nat → Ar) (i : Nat) : fallTo xs A (i + 1) = upd (fallTo xs A i) i (fallA xs i (A i)) := by
  funext j
  by_cases e : j = i
  · subst e; rw [upd_at]; exact if_pos (by omega)
  · rw [upd_ne _ _ e]
    unfold fallTo
    by_cases h : j < i
    · rw [if_pos (by omega), if_pos h]
    · rw [if_neg (by omega), if_neg h]
theorem fallTo_none (xs : List Int) (A : Nat → Ar) (i : Nat) (h : A i = none) : fallTo xs A (i + 1) = fallTo xs A i := by
  rw [fallTo_succ, h]
  funext j
  by_cases e : j = i
  · subst e; rw [upd_at, fallTo_at, h]; rfl
  · rw [upd_ne _ _ e]
theorem keepN_le (xs : List Int) (i p : Nat) : keepN xs i p ≤ p := by unfold keepN; split <;> omega
theorem keep_ways (q : Int) (s t kn pd : Nat) (h : kn = (min (max q 0) (pd : Int)).toNat) (ht : t = s + kn) : (q ≤ 0 ∧ 0 < pd ∧ kn = 0 ∧ t = s) ∨ (0 < q ∧ q < (pd : Int) ∧ 0 < pd ∧ q = (kn : Int)) ∨ ((pd : Int) ≤ q ∧ 0 < q ∧ 0 < pd ∧ kn = pd) ∨ (q ≤ 0 ∧ pd = 0 ∧ kn = 0 ∧ t = s) ∨ (0 < q ∧ pd = 0 ∧ kn = 0 ∧ t = s) := by omega
theorem nums_take (xs : List Int) (n : Nat) : (nums .u8 xs).take n = nums .u8 (xs.take n) := by simp [nums]
theorem bytesOf_ext0 (b : ByteArray) (n : Nat) : bytesOf (b.extract 0 n) = (bytesOf b).take n := by
  unfold bytesOf
  rw [ByteArray.data_extract]
  simp
section
variable {X : Nat → Obj → Prop} {w0 w : World} {g : Nat} {room left : Int} {down : Bool} {A : Nat → Ar} {K : Nat → Nat} {V : Nat → Value}
/-- An area's slice is made shorter. -/
theorem IsD.shorter (h : IsD X w0 w g room left down A K V) (n : Nat) (hn : n < 4) {b : ByteArray} {s : Nat} {R : Option Addr} {c : Nat} (hA : A n = some (b, s)) (hV : V n = .slice R b.size c) (m : Nat) (hm : m ≤ b.size) :
    IsD X w0 (w.setCell ⟨K n, 0, none⟩ (.slice R m c)) g room left down (upd A n (some (b.extract 0 m, s))) K (upd V n (.slice R m c)) := by
  obtain ⟨h1, h2, h3⟩ := h.ha n hn b s hA
  rw [hV] at h3
  have ho := own_take h3 hm
  have hsz : (b.extract 0 m).size = m := by rw [ByteArray.size_extract]; omega
  have hm2 : ∀ k, k ≠ K n → (w.setCell ⟨K n, 0, none⟩ (.slice R m c)).heap[k]? = w.heap[k]? := fun k hk => Below.heap_setCell w ⟨K n, 0, none⟩ _ k hk
  refine h.area n hn hA (area_store0 h1) (own_move (by rw [hsz, bytesOf_ext0, ← nums_take, ← Nat.mul_one m]; simpa using ho) fun k hk => hm2 k (row_ne ho h1 (by decide) k hk)) ?_ (fun k _ hk _ => hm2 k hk)
  rw [hV]
  rcases R with _ | ad
  · exact .inl rfl
  · exact .inl rfl
theorem own_cap {W : World} {base n c : Nat} {e : TypeId} {R : Option Addr} {xs : List Value} (h : W.ownsRow base e 1 (.slice R n c) n xs) : n ≤ c := by
  rcases h.2 with ⟨h1, h2⟩ | ⟨k, cap, cur, he, _, _, h2, _⟩
  · omega
  · injection he with _ _ h4
    omega
theorem cell_of_heap {W W' : World} {a : Addr} (h : W'.heap[a.block]? = W.heap[a.block]?) : W'.cell? a = W.cell? a := by simp [World.cell?, h]
theorem upd_upd {α : Type} (f : Nat → α) (n : Nat) (x y : α) : upd (upd f n x) n y = upd f n y := by
  funext j
  by_cases e : j = n
  · subst e; rw [upd_at, upd_at]
  · rw [upd_ne _ _ e, upd_ne _ _ e, upd_ne _ _ e]
theorem all_calls2 (n : Nat) (hn : n < 4) {b : ByteArray} {s : Nat} (hA : A n = some (b, s)) (hI : IsD X w0 w g room left down A K V) (hB : Below w0.heap.size w0 w) : Calls Try.prog 36 #[.pointer (some ⟨K n, 0, none⟩)] w fun e w' => e = .returned (.tuple #[]) ∧
    (∃ V', IsD X w0 w' g room left down (upd A n (some (b, b.size))) K V') ∧ Below w0.heap.size w0 w' ∧ ∀ k, k ≠ K n → w'.heap[k]? = w.heap[k]? := by
  obtain ⟨h1, h2, h3⟩ := hI.ha n hn b s hA
  have c0 : w.cell? ⟨K n, 0, none⟩ = some (V n) := (blk_cell h1 0).trans rfl
  have c1 : w.cell? ⟨K n, 1, none⟩ = some (.int .i64 (s : Int)) := (blk_cell h1 1).trans rfl
  have f1 := blk_frozen h1 1
  obtain ⟨R, c, hv⟩ := own_slice h3
  rw [hv] at c0
  have HI := Lib.hid hI
  have HB := Lib.hid hB
  have H2 := Lib.hid h2
  clear hI hB h1 h3 hv h2
  have HE := Lib.hid (HI.out.setSure n hn hA b.size)
  generalize K n = kn at *
  go_enter Try.func36, Try.ntmps36
  go_wp2
  go_end0
  exact ⟨rfl, ⟨_, HE.out⟩, HB.out.setCell H2.out _, fun k hk => Below.heap_setCell w ⟨kn, 1, none⟩ _ k hk⟩
set_option maxRecDepth 100000 in
set_option maxHeartbeats 8000000 in
theorem fall_calls (xs : List Int) (R0 : Option Addr) (c0 : Nat) (hxl : xs.length ≤ c0) (hI : IsD X w0 w g room left down A K V) (hB : Below w0.heap.size w0 w) (hr : ReadsInt w .i64 R0 xs.length xs) (hkf : ∀ ad, R0 = some ad → 0 < xs.length → ∀ i, i < 4 → (A i).isSome = true → ad.block ≠ K i)
    (hsb : ∀ i, i < 4 → ∀ b s, A i = some (b, s) → s ≤ b.size) (hbz : ∀ i, i < 4 → ∀ b s, A i = some (b, s) → b.size ≤ 9223372036854775807) :
    Calls Try.prog 15 #[.pointer (some ⟨g, 0, none⟩), .slice R0 xs.length c0] w fun e w' => e = .returned (.tuple #[]) ∧ (∃ V', IsD X w0 w' g room (-1) false (fallTo xs A 4) K V') ∧ Below w0.heap.size w0 w' := by
  have c3 := hI.cp 0 (by decide)
  have c4 := hI.cp 1 (by decide)
  have c5 := hI.cp 2 (by decide)
  have c6 := hI.cp 3 (by decide)
  have hxs : ∀ n, n < 4 → n < xs.length → ∃ ad, R0 = some ad ∧ w.cell? (ad.add n) = some (.int .i64 (rd xs n)) := by
    intro n _ h
    obtain ⟨ad, e, hc⟩ := hr.at_ (n : Int) (by omega) (by omega)
    exact ⟨ad, e, by simpa using hc⟩
  have HP : Hid (∀ i, i < 4 → (A i = none ∧ ptr (A i) (K i) = .pointer none) ∨ (∃ b s, A i = some (b, s) ∧ ptr (A i) (K i) = .pointer (some ⟨K i, 0, none⟩))) := Lib.hid (by
    intro i hi
    cases hA : A i with
    | none => exact .inl ⟨rfl, rfl⟩
    | some x => exact .inr ⟨x.1, x.2, rfl, rfl⟩)
  have HI0 := Lib.hid hI
  have HB0 := Lib.hid hB
  have HSB := Lib.hid hsb
  have HBZ := Lib.hid hbz
  have HKF : Hid (∀ ad, R0 = some ad → 0 < xs.length → ∀ i, i < 4 → (A i).isSome = true → ad.block ≠ K i) := Lib.hid hkf
  have HXL := Lib.hid hxl
  have hxl2 : xs.length ≤ 9223372036854775807 := hr.2.1
  clear hI hB hr hkf hsb hbz hxl
  generalize hp0 : ptr (A 0) (K 0) = p0 at *
  generalize hp1 : ptr (A 1) (K 1) = p1 at *
  generalize hp2 : ptr (A 2) (K 2) = p2 at *
  generalize hp3 : ptr (A 3) (K 3) = p3 at *
  have HP0 := Lib.hid hp0
  have HP1 := Lib.hid hp1
  have HP2 := Lib.hid hp2
  have HP3 := Lib.hid hp3
  clear hp0 hp1 hp2 hp3
  have i0 : ∀ w, (Instr.index 58 (.agg #[p0, p1, p2, p3]) (.int .i64 0)).run Try.prog w = .ok p0 w := fun _ => by kernel_rfl
  have i1 : ∀ w, (Instr.index 58 (.agg #[p0, p1, p2, p3]) (.int .i64 1)).run Try.prog w = .ok p1 w := fun _ => by kernel_rfl
  have i2 : ∀ w, (Instr.index 58 (.agg #[p0, p1, p2, p3]) (.int .i64 2)).run Try.prog w = .ok p2 w := fun _ => by kernel_rfl
  have i3 : ∀ w, (Instr.index 58 (.agg #[p0, p1, p2, p3]) (.int .i64 3)).run Try.prog w = .ok p3 w := fun _ => by kernel_rfl
  have HXS := Lib.hid hxs
  clear hxs
  go_enter Try.func15, Try.ntmps15
  go_wp2_with fail
  clear c3 c4 c5 c6
  go_loopg [13] 5 (fun gk v13 wx => ∃ (i : Nat) (Vx : Nat → Value), i ≤ 4 ∧ v13 = .int .i64 (i : Int) ∧ Aside0 (i + gk = 5) ∧ Aside0 (IsD X w0 wx g room left down (fallTo xs A i) K Vx ∧ Below w0.heap.size w0 wx ∧ ∀ k, (∀ i, i < 4 → (A i).isSome = true → k ≠ K i) → wx.heap[k]? = w.heap[k]?))
  case atStart => exact ⟨0, V, by decide, rfl, ⟨by omega⟩, ⟨by rw [fallTo_zero]; exact HI0.out, HB0.out, fun _ _ => rfl⟩⟩
  case round =>
    obtain ⟨i, Vx, hi, rfl, ⟨hg⟩, ⟨hI, hB, hM⟩⟩ := hrel
    have HG := Lib.hid hg
    have HI := Lib.hid hI
    have HB := Lib.hid hB
    have HM := Lib.hid hM
    have hxs := HXS.out
    clear hg hI hB hM
    rcases (show i = 0 ∨ i = 1 ∨ i = 2 ∨ i = 3 ∨ i = 4 by omega) with rfl | rfl | rfl | rfl | rfl
    · have HS1 := Lib.hid (hxs 0 (by decide))
      rcases HP.out 0 (by decide) with ⟨hA, hq⟩ | ⟨b, s, hA, hq⟩
      · obtain rfl : p0 = .pointer none := HP0.out.symm.trans hq
        have HF := Lib.hid (fallTo_none xs A 0 hA)
        clear hq hA
        go_wp2
        go_roundg (gk - 1)
        case measure => have := HG.out; omega
        case rel => exact ⟨1, Vx, by decide, by go_num, ⟨by have := HG.out; omega⟩, ⟨by rw [HF.out]; exact HI.out, HB.out, HM.out⟩⟩
      · obtain rfl : p0 = .pointer (some ⟨K 0, 0, none⟩) := HP0.out.symm.trans hq
        have hAx : fallTo xs A 0 0 = some (b, s) := (fallTo_at xs A 0).trans hA
        obtain ⟨h1, h2, h3⟩ := HI.out.ha 0 (by decide) b s hAx
        obtain ⟨R, c, hv⟩ := own_slice h3
        have c0 : wr.cell? ⟨K 0, 0, none⟩ = some (.slice R b.size c) := by rw [← hv]; exact (blk_cell h1 0).trans rfl
        have c1 : wr.cell? ⟨K 0, 1, none⟩ = some (.int .i64 (s : Int)) := (blk_cell h1 1).trans rfl
        have f0 := blk_frozen h1 0
        have hcap : b.size ≤ c := own_cap (by rw [← hv]; exact h3)
        have hsb := HSB.out 0 (by decide) b s hA
        have hbz := HBZ.out 0 (by decide) b s hA
        have HKB := Lib.hid (show fallA xs 0 (A 0) = some (b.extract 0 (s + keepN xs 0 (b.size - s)), (b.extract 0 (s + keepN xs 0 (b.size - s))).size) by rw [hA]; rfl)
        have hkl := keepN_le xs 0 (b.size - s)
        have HKN := Lib.hid (show keepN xs 0 (b.size - s) = if 0 < xs.length then (min (max (rd xs 0) 0) ((b.size - s : Nat) : Int)).toNat else 0 from rfl)
        obtain ⟨pd, hpd⟩ : ∃ pd, pd = b.size - s := ⟨_, rfl⟩
        rw [← hpd] at HKB hkl HKN
        generalize hkn : keepN xs 0 pd = kn at *
        have hsub : (b.size : Int) - (s : Int) = (pd : Int) := by omega
        have HPW := Lib.hid (show IntKind.i64.wrap (pd : Int) = (pd : Int) by rw [IntKind.wrap_i64]; omega)
        have hw : IntKind.i64.wrap ((s : Int) + (kn : Int)) = ((s + kn : Nat) : Int) := by rw [IntKind.wrap_i64]; omega
        have hw2 : (s : Int) + (kn : Int) = ((s + kn : Nat) : Int) := by omega
        have hez : (b.extract 0 (s + kn)).size = s + kn := by rw [ByteArray.size_extract]; omega
        have HCA := Lib.hid (fun (W : World) (hI : IsD X w0 W g room left down (fallTo xs A 0) K Vx) (hB : Below w0.heap.size w0 W) => all_calls2 0 (by decide) (upd_at (fallTo xs A 0) 0 (some (b.extract 0 (s + kn), s))) (hI.shorter 0 (by decide) hAx hv (s + kn) (by omega)) (hB.setCell (p := ⟨K 0, 0, none⟩) h2 (.slice R (s + kn) c)))
        have HF : Hid (upd (upd (fallTo xs A 0) 0 (some (b.extract 0 (s + kn), s))) 0 (some (b.extract 0 (s + kn), (b.extract 0 (s + kn)).size)) = fallTo xs A 1) := Lib.hid (by rw [upd_upd, fallTo_succ xs A 0, HKB.out])
        have HMM : Hid (∀ k, (∀ i, i < 4 → (A i).isSome = true → k ≠ K i) → k ≠ K 0) := Lib.hid (fun k hk => hk 0 (by decide) (by rw [hA]; rfl))
        have ht0 : (0 : Int) ≤ ((s + kn : Nat) : Int) := by omega
        have ht1 : ((s + kn : Nat) : Int) ≤ (c : Int) := by omega
        obtain ⟨t, htt⟩ : ∃ t, t = s + kn := ⟨_, rfl⟩
        have HWT := Lib.hid (show IntKind.i64.wrap (t : Int) = (t : Int) by rw [IntKind.wrap_i64]; omega)
        rw [← htt] at hw hw2 HCA HF ht0 ht1
        clear hq h1 h3 hv hAx hA hkl hsb hpd HKB hez
        have HT := Lib.hid htt
        clear htt hkn
        rcases (show 0 < xs.length ∨ xs.length ≤ 0 by omega) with hln | hln
        · obtain ⟨ad, rfl, hcell⟩ := HS1.out hln
          have hcx : wr.cell? ad = some (.int .i64 (rd xs 0)) := by
            have h := (cell_of_heap (W' := wr) (HM.out _ (HKF.out ad rfl (by omega)))).trans hcell
            simpa [Addr.add] using h
          rw [if_pos hln] at HKN
          obtain ⟨q, hq⟩ : ∃ q, q = rd xs 0 := ⟨_, rfl⟩
          rw [← hq] at HKN hcx
          have hmm := HKN.out
          have hTT := HT.out
          have EQ := Lib.hid (show (if IntKind.i64.wrap (pd : Int) < if q < 0 then 0 else q then IntKind.i64.wrap (pd : Int) else if q < 0 then 0 else q) = (kn : Int) by rw [HPW.out]; by_cases hx : q < 0 <;> simp only [hx, if_true, if_false] <;> split <;> omega)
          clear hcell hq HKN hmm hTT
          go_wp2_with fail
          go_region_held3 (fun w' => w'.cell? ad = some (.int .i64 q) ∧ w'.cell? ⟨K 0, 0, none⟩ = some (.slice R b.size c) ∧ w'.cell? ⟨K 0, 1, none⟩ = some (.int .i64 (s : Int))) (first | exact ⟨hcx, c0, c1⟩ | go_keep) (fail)
          rw [EQ.out]
          generalize (if q < 0 then (0 : Int) else q) = q2
          have hwt := HWT.out
          go_wp2_with fail
          go_region
          go_wp2_with fail
          refine (HCA.out wr.drew.drew HI.out.drew.drew (below_drew1 (below_drew1 HB.out))).mono ?_
          rintro e w3 ⟨rfl, ⟨V3, hI3⟩, hB3, hM3⟩
          have HI3 := Lib.hid (show IsD X w0 w3 g room left down (fallTo xs A 1) K V3 by rw [← HF.out]; exact hI3)
          have HB3 := Lib.hid hB3
          have HM3 : Hid (∀ k, (∀ i, i < 4 → (A i).isSome = true → k ≠ K i) → w3.heap[k]? = w.heap[k]?) := Lib.hid (fun k hk => (hM3 k (HMM.out k hk)).trans ((Below.heap_setCell wr.drew.drew ⟨K 0, 0, none⟩ (.slice R t c) k (HMM.out k hk)).trans (HM.out k hk)))
          clear hI3 hB3 hM3 HCA
          go_wp2
          go_roundg (gk - 1)
          case measure => have := HG.out; omega
          case rel => exact ⟨1, V3, by decide, by go_num, ⟨by have := HG.out; omega⟩, ⟨HI3.out, HB3.out, HM3.out⟩⟩
        · rw [if_neg (by omega)] at HKN
          have hk0 : t = s := by have := HKN.out; have := HT.out; omega
          subst hk0
          clear HKN hw hw2
          go_wp2_with fail
          go_region
          go_wp2_with fail
          refine (HCA.out wr.drew HI.out.drew (below_drew1 HB.out)).mono ?_
          rintro e w3 ⟨rfl, ⟨V3, hI3⟩, hB3, hM3⟩
          have HI3 := Lib.hid (show IsD X w0 w3 g room left down (fallTo xs A 1) K V3 by rw [← HF.out]; exact hI3)
          have HB3 := Lib.hid hB3
          have HM3 : Hid (∀ k, (∀ i, i < 4 → (A i).isSome = true → k ≠ K i) → w3.heap[k]? = w.heap[k]?) := Lib.hid (fun k hk => (hM3 k (HMM.out k hk)).trans ((Below.heap_setCell wr.drew ⟨K 0, 0, none⟩ (.slice R t c) k (HMM.out k hk)).trans (HM.out k hk)))
          clear hI3 hB3 hM3 HCA
          go_wp2
          go_roundg (gk - 1)
          case measure => have := HG.out; omega
          case rel => exact ⟨1, V3, by decide, by go_num, ⟨by have := HG.out; omega⟩, ⟨HI3.out, HB3.out, HM3.out⟩⟩
    · have HS1 := Lib.hid (hxs 1 (by decide))
      rcases HP.out 1 (by decide) with ⟨hA, hq⟩ | ⟨b, s, hA, hq⟩
      · obtain rfl : p1 = .pointer none := HP1.out.symm.trans hq
        have HF := Lib.hid (fallTo_none xs A 1 hA)
        clear hq hA
        go_wp2
        go_roundg (gk - 1)
        case measure => have := HG.out; omega
        case rel => exact ⟨2, Vx, by decide, by go_num, ⟨by have := HG.out; omega⟩, ⟨by rw [HF.out]; exact HI.out, HB.out, HM.out⟩⟩
      · obtain rfl : p1 = .pointer (some ⟨K 1, 0, none⟩) := HP1.out.symm.trans hq
        have hAx : fallTo xs A 1 1 = some (b, s) := (fallTo_at xs A 1).trans hA
        obtain ⟨h1, h2, h3⟩ := HI.out.ha 1 (by decide) b s hAx
        obtain ⟨R, c, hv⟩ := own_slice h3
        have c0 : wr.cell? ⟨K 1, 0, none⟩ = some (.slice R b.size c) := by rw [← hv]; exact (blk_cell h1 0).trans rfl
        have c1 : wr.cell? ⟨K 1, 1, none⟩ = some (.int .i64 (s : Int)) := (blk_cell h1 1).trans rfl
        have f0 := blk_frozen h1 0
        have hcap : b.size ≤ c := own_cap (by rw [← hv]; exact h3)
        have hsb := HSB.out 1 (by decide) b s hA
        have hbz := HBZ.out 1 (by decide) b s hA
        have HKB := Lib.hid (show fallA xs 1 (A 1) = some (b.extract 0 (s + keepN xs 1 (b.size - s)), (b.extract 0 (s + keepN xs 1 (b.size - s))).size) by rw [hA]; rfl)
        have hkl := keepN_le xs 1 (b.size - s)
        have HKN := Lib.hid (show keepN xs 1 (b.size - s) = if 1 < xs.length then (min (max (rd xs 1) 0) ((b.size - s : Nat) : Int)).toNat else 0 from rfl)
        obtain ⟨pd, hpd⟩ : ∃ pd, pd = b.size - s := ⟨_, rfl⟩
        rw [← hpd] at HKB hkl HKN
        generalize hkn : keepN xs 1 pd = kn at *
        have hsub : (b.size : Int) - (s : Int) = (pd : Int) := by omega
        have HPW := Lib.hid (show IntKind.i64.wrap (pd : Int) = (pd : Int) by rw [IntKind.wrap_i64]; omega)
        have hw : IntKind.i64.wrap ((s : Int) + (kn : Int)) = ((s + kn : Nat) : Int) := by rw [IntKind.wrap_i64]; omega
        have hw2 : (s : Int) + (kn : Int) = ((s + kn : Nat) : Int) := by omega
        have hez : (b.extract 0 (s + kn)).size = s + kn := by rw [ByteArray.size_extract]; omega
        have HCA := Lib.hid (fun (W : World) (hI : IsD X w0 W g room left down (fallTo xs A 1) K Vx) (hB : Below w0.heap.size w0 W) => all_calls2 1 (by decide) (upd_at (fallTo xs A 1) 1 (some (b.extract 0 (s + kn), s))) (hI.shorter 1 (by decide) hAx hv (s + kn) (by omega)) (hB.setCell (p := ⟨K 1, 0, none⟩) h2 (.slice R (s + kn) c)))
        have HF : Hid (upd (upd (fallTo xs A 1) 1 (some (b.extract 0 (s + kn), s))) 1 (some (b.extract 0 (s + kn), (b.extract 0 (s + kn)).size)) = fallTo xs A 2) := Lib.hid (by rw [upd_upd, fallTo_succ xs A 1, HKB.out])
        have HMM : Hid (∀ k, (∀ i, i < 4 → (A i).isSome = true → k ≠ K i) → k ≠ K 1) := Lib.hid (fun k hk => hk 1 (by decide) (by rw [hA]; rfl))
        have ht0 : (0 : Int) ≤ ((s + kn : Nat) : Int) := by omega
        have ht1 : ((s + kn : Nat) : Int) ≤ (c : Int) := by omega
        obtain ⟨t, htt⟩ : ∃ t, t = s + kn := ⟨_, rfl⟩
        have HWT := Lib.hid (show IntKind.i64.wrap (t : Int) = (t : Int) by rw [IntKind.wrap_i64]; omega)
        rw [← htt] at hw hw2 HCA HF ht0 ht1
        clear hq h1 h3 hv hAx hA hkl hsb hpd HKB hez
        have HT := Lib.hid htt
        clear htt hkn
        rcases (show 1 < xs.length ∨ xs.length ≤ 1 by omega) with hln | hln
        · obtain ⟨ad, rfl, hcell⟩ := HS1.out hln
          have hab : (ad.add 1).block = ad.block := by unfold Addr.add; split <;> rfl
          have hcx : wr.cell? { block := ad.block, off := ad.off + 1 } = some (.int .i64 (rd xs 1)) := by
            have h := (cell_of_heap (W' := wr) (HM.out _ (by rw [hab]; exact HKF.out ad rfl (by omega)))).trans hcell
            simpa [Addr.add] using h
          rw [if_pos hln] at HKN
          obtain ⟨q, hq⟩ : ∃ q, q = rd xs 1 := ⟨_, rfl⟩
          rw [← hq] at HKN hcx
          have hmm := HKN.out
          have hTT := HT.out
          have EQ := Lib.hid (show (if IntKind.i64.wrap (pd : Int) < if q < 0 then 0 else q then IntKind.i64.wrap (pd : Int) else if q < 0 then 0 else q) = (kn : Int) by rw [HPW.out]; by_cases hx : q < 0 <;> simp only [hx, if_true, if_false] <;> split <;> omega)
          clear hcell hq HKN hmm hTT
          go_wp2_with fail
          go_region_held3 (fun w' => w'.cell? { block := ad.block, off := ad.off + 1 } = some (.int .i64 q) ∧ w'.cell? ⟨K 1, 0, none⟩ = some (.slice R b.size c) ∧ w'.cell? ⟨K 1, 1, none⟩ = some (.int .i64 (s : Int))) (first | exact ⟨hcx, c0, c1⟩ | go_keep) (fail)
          rw [EQ.out]
          generalize (if q < 0 then (0 : Int) else q) = q2
          have hwt := HWT.out
          go_wp2_with fail
          go_region
          go_wp2_with fail
          refine (HCA.out wr.drew.drew HI.out.drew.drew (below_drew1 (below_drew1 HB.out))).mono ?_
          rintro e w3 ⟨rfl, ⟨V3, hI3⟩, hB3, hM3⟩
          have HI3 := Lib.hid (show IsD X w0 w3 g room left down (fallTo xs A 2) K V3 by rw [← HF.out]; exact hI3)
          have HB3 := Lib.hid hB3
          have HM3 : Hid (∀ k, (∀ i, i < 4 → (A i).isSome = true → k ≠ K i) → w3.heap[k]? = w.heap[k]?) := Lib.hid (fun k hk => (hM3 k (HMM.out k hk)).trans ((Below.heap_setCell wr.drew.drew ⟨K 1, 0, none⟩ (.slice R t c) k (HMM.out k hk)).trans (HM.out k hk)))
          clear hI3 hB3 hM3 HCA
          go_wp2
          go_roundg (gk - 1)
          case measure => have := HG.out; omega
          case rel => exact ⟨2, V3, by decide, by go_num, ⟨by have := HG.out; omega⟩, ⟨HI3.out, HB3.out, HM3.out⟩⟩
        · rw [if_neg (by omega)] at HKN
          have hk0 : t = s := by have := HKN.out; have := HT.out; omega
          subst hk0
          clear HKN hw hw2
          go_wp2_with fail
          go_region
          go_wp2_with fail
          refine (HCA.out wr.drew HI.out.drew (below_drew1 HB.out)).mono ?_
          rintro e w3 ⟨rfl, ⟨V3, hI3⟩, hB3, hM3⟩
          have HI3 := Lib.hid (show IsD X w0 w3 g room left down (fallTo xs A 2) K V3 by rw [← HF.out]; exact hI3)
          have HB3 := Lib.hid hB3
          have HM3 : Hid (∀ k, (∀ i, i < 4 → (A i).isSome = true → k ≠ K i) → w3.heap[k]? = w.heap[k]?) := Lib.hid (fun k hk => (hM3 k (HMM.out k hk)).trans ((Below.heap_setCell wr.drew ⟨K 1, 0, none⟩ (.slice R t c) k (HMM.out k hk)).trans (HM.out k hk)))
          clear hI3 hB3 hM3 HCA
          go_wp2
          go_roundg (gk - 1)
          case measure => have := HG.out; omega
          case rel => exact ⟨2, V3, by decide, by go_num, ⟨by have := HG.out; omega⟩, ⟨HI3.out, HB3.out, HM3.out⟩⟩
    · have HS1 := Lib.hid (hxs 2 (by decide))
      rcases HP.out 2 (by decide) with ⟨hA, hq⟩ | ⟨b, s, hA, hq⟩
      · obtain rfl : p2 = .pointer none := HP2.out.symm.trans hq
        have HF := Lib.hid (fallTo_none xs A 2 hA)
        clear hq hA
        go_wp2
        go_roundg (gk - 1)
        case measure => have := HG.out; omega
        case rel => exact ⟨3, Vx, by decide, by go_num, ⟨by have := HG.out; omega⟩, ⟨by rw [HF.out]; exact HI.out, HB.out, HM.out⟩⟩
      · obtain rfl : p2 = .pointer (some ⟨K 2, 0, none⟩) := HP2.out.symm.trans hq
        have hAx : fallTo xs A 2 2 = some (b, s) := (fallTo_at xs A 2).trans hA
        obtain ⟨h1, h2, h3⟩ := HI.out.ha 2 (by decide) b s hAx
        obtain ⟨R, c, hv⟩ := own_slice h3
        have c0 : wr.cell? ⟨K 2, 0, none⟩ = some (.slice R b.size c) := by rw [← hv]; exact (blk_cell h1 0).trans rfl
        have c1 : wr.cell? ⟨K 2, 1, none⟩ = some (.int .i64 (s : Int)) := (blk_cell h1 1).trans rfl
        have f0 := blk_frozen h1 0
        have hcap : b.size ≤ c := own_cap (by rw [← hv]; exact h3)
        have hsb := HSB.out 2 (by decide) b s hA
        have hbz := HBZ.out 2 (by decide) b s hA
        have HKB := Lib.hid (show fallA xs 2 (A 2) = some (b.extract 0 (s + keepN xs 2 (b.size - s)), (b.extract 0 (s + keepN xs 2 (b.size - s))).size) by rw [hA]; rfl)
        have hkl := keepN_le xs 2 (b.size - s)
        have HKN := Lib.hid (show keepN xs 2 (b.size - s) = if 2 < xs.length then (min (max (rd xs 2) 0) ((b.size - s : Nat) : Int)).toNat else 0 from rfl)
        obtain ⟨pd, hpd⟩ : ∃ pd, pd = b.size - s := ⟨_, rfl⟩
        rw [← hpd] at HKB hkl HKN
        generalize hkn : keepN xs 2 pd = kn at *
        have hsub : (b.size : Int) - (s : Int) = (pd : Int) := by omega
        have HPW := Lib.hid (show IntKind.i64.wrap (pd : Int) = (pd : Int) by rw [IntKind.wrap_i64]; omega)
        have hw : IntKind.i64.wrap ((s : Int) + (kn : Int)) = ((s + kn : Nat) : Int) := by rw [IntKind.wrap_i64]; omega
        have hw2 : (s : Int) + (kn : Int) = ((s + kn : Nat) : Int) := by omega
        have hez : (b.extract 0 (s + kn)).size = s + kn := by rw [ByteArray.size_extract]; omega
        have HCA := Lib.hid (fun (W : World) (hI : IsD X w0 W g room left down (fallTo xs A 2) K Vx) (hB : Below w0.heap.size w0 W) => all_calls2 2 (by decide) (upd_at (fallTo xs A 2) 2 (some (b.extract 0 (s + kn), s))) (hI.shorter 2 (by decide) hAx hv (s + kn) (by omega)) (hB.setCell (p := ⟨K 2, 0, none⟩) h2 (.slice R (s + kn) c)))
        have HF : Hid (upd (upd (fallTo xs A 2) 2 (some (b.extract 0 (s + kn), s))) 2 (some (b.extract 0 (s + kn), (b.extract 0 (s + kn)).size)) = fallTo xs A 3) := Lib.hid (by rw [upd_upd, fallTo_succ xs A 2, HKB.out])
        have HMM : Hid (∀ k, (∀ i, i < 4 → (A i).isSome = true → k ≠ K i) → k ≠ K 2) := Lib.hid (fun k hk => hk 2 (by decide) (by rw [hA]; rfl))
        have ht0 : (0 : Int) ≤ ((s + kn : Nat) : Int) := by omega
        have ht1 : ((s + kn : Nat) : Int) ≤ (c : Int) := by omega
        obtain ⟨t, htt⟩ : ∃ t, t = s + kn := ⟨_, rfl⟩
        have HWT := Lib.hid (show IntKind.i64.wrap (t : Int) = (t : Int) by rw [IntKind.wrap_i64]; omega)
        rw [← htt] at hw hw2 HCA HF ht0 ht1
        clear hq h1 h3 hv hAx hA hkl hsb hpd HKB hez
        have HT := Lib.hid htt
        clear htt hkn
        rcases (show 2 < xs.length ∨ xs.length ≤ 2 by omega) with hln | hln
        · obtain ⟨ad, rfl, hcell⟩ := HS1.out hln
          have hab : (ad.add 2).block = ad.block := by unfold Addr.add; split <;> rfl
          have hcx : wr.cell? { block := ad.block, off := ad.off + 2 } = some (.int .i64 (rd xs 2)) := by
            have h := (cell_of_heap (W' := wr) (HM.out _ (by rw [hab]; exact HKF.out ad rfl (by omega)))).trans hcell
            simpa [Addr.add] using h
          rw [if_pos hln] at HKN
          obtain ⟨q, hq⟩ : ∃ q, q = rd xs 2 := ⟨_, rfl⟩
          rw [← hq] at HKN hcx
          have hmm := HKN.out
          have hTT := HT.out
          have EQ := Lib.hid (show (if IntKind.i64.wrap (pd : Int) < if q < 0 then 0 else q then IntKind.i64.wrap (pd : Int) else if q < 0 then 0 else q) = (kn : Int) by rw [HPW.out]; by_cases hx : q < 0 <;> simp only [hx, if_true, if_false] <;> split <;> omega)
          clear hcell hq HKN hmm hTT
          go_wp2_with fail
          go_region_held3 (fun w' => w'.cell? { block := ad.block, off := ad.off + 2 } = some (.int .i64 q) ∧ w'.cell? ⟨K 2, 0, none⟩ = some (.slice R b.size c) ∧ w'.cell? ⟨K 2, 1, none⟩ = some (.int .i64 (s : Int))) (first | exact ⟨hcx, c0, c1⟩ | go_keep) (fail)
          rw [EQ.out]
          generalize (if q < 0 then (0 : Int) else q) = q2
          have hwt := HWT.out
          go_wp2_with fail
          go_region
          go_wp2_with fail
          refine (HCA.out wr.drew.drew HI.out.drew.drew (below_drew1 (below_drew1 HB.out))).mono ?_
          rintro e w3 ⟨rfl, ⟨V3, hI3⟩, hB3, hM3⟩
          have HI3 := Lib.hid (show IsD X w0 w3 g room left down (fallTo xs A 3) K V3 by rw [← HF.out]; exact hI3)
          have HB3 := Lib.hid hB3
          have HM3 : Hid (∀ k, (∀ i, i < 4 → (A i).isSome = true → k ≠ K i) → w3.heap[k]? = w.heap[k]?) := Lib.hid (fun k hk => (hM3 k (HMM.out k hk)).trans ((Below.heap_setCell wr.drew.drew ⟨K 2, 0, none⟩ (.slice R t c) k (HMM.out k hk)).trans (HM.out k hk)))
          clear hI3 hB3 hM3 HCA
          go_wp2
          go_roundg (gk - 1)
          case measure => have := HG.out; omega
          case rel => exact ⟨3, V3, by decide, by go_num, ⟨by have := HG.out; omega⟩, ⟨HI3.out, HB3.out, HM3.out⟩⟩
        · rw [if_neg (by omega)] at HKN
          have hk0 : t = s := by have := HKN.out; have := HT.out; omega
          subst hk0
          clear HKN hw hw2
          go_wp2_with fail
          go_region
          go_wp2_with fail
          refine (HCA.out wr.drew HI.out.drew (below_drew1 HB.out)).mono ?_
          rintro e w3 ⟨rfl, ⟨V3, hI3⟩, hB3, hM3⟩
          have HI3 := Lib.hid (show IsD X w0 w3 g room left down (fallTo xs A 3) K V3 by rw [← HF.out]; exact hI3)
          have HB3 := Lib.hid hB3
          have HM3 : Hid (∀ k, (∀ i, i < 4 → (A i).isSome = true → k ≠ K i) → w3.heap[k]? = w.heap[k]?) := Lib.hid (fun k hk => (hM3 k (HMM.out k hk)).trans ((Below.heap_setCell wr.drew ⟨K 2, 0, none⟩ (.slice R t c) k (HMM.out k hk)).trans (HM.out k hk)))
          clear hI3 hB3 hM3 HCA
          go_wp2
          go_roundg (gk - 1)
          case measure => have := HG.out; omega
          case rel => exact ⟨3, V3, by decide, by go_num, ⟨by have := HG.out; omega⟩, ⟨HI3.out, HB3.out, HM3.out⟩⟩
    · have HS1 := Lib.hid (hxs 3 (by decide))
      rcases HP.out 3 (by decide) with ⟨hA, hq⟩ | ⟨b, s, hA, hq⟩
      · obtain rfl : p3 = .pointer none := HP3.out.symm.trans hq
        have HF := Lib.hid (fallTo_none xs A 3 hA)
        clear hq hA
        go_wp2
        go_roundg (gk - 1)
        case measure => have := HG.out; omega
        case rel => exact ⟨4, Vx, by decide, by go_num, ⟨by have := HG.out; omega⟩, ⟨by rw [HF.out]; exact HI.out, HB.out, HM.out⟩⟩
      · obtain rfl : p3 = .pointer (some ⟨K 3, 0, none⟩) := HP3.out.symm.trans hq
        have hAx : fallTo xs A 3 3 = some (b, s) := (fallTo_at xs A 3).trans hA
        obtain ⟨h1, h2, h3⟩ := HI.out.ha 3 (by decide) b s hAx
        obtain ⟨R, c, hv⟩ := own_slice h3
        have c0 : wr.cell? ⟨K 3, 0, none⟩ = some (.slice R b.size c) := by rw [← hv]; exact (blk_cell h1 0).trans rfl
        have c1 : wr.cell? ⟨K 3, 1, none⟩ = some (.int .i64 (s : Int)) := (blk_cell h1 1).trans rfl
        have f0 := blk_frozen h1 0
        have hcap : b.size ≤ c := own_cap (by rw [← hv]; exact h3)
        have hsb := HSB.out 3 (by decide) b s hA
        have hbz := HBZ.out 3 (by decide) b s hA
        have HKB := Lib.hid (show fallA xs 3 (A 3) = some (b.extract 0 (s + keepN xs 3 (b.size - s)), (b.extract 0 (s + keepN xs 3 (b.size - s))).size) by rw [hA]; rfl)
        have hkl := keepN_le xs 3 (b.size - s)
        have HKN := Lib.hid (show keepN xs 3 (b.size - s) = if 3 < xs.length then (min (max (rd xs 3) 0) ((b.size - s : Nat) : Int)).toNat else 0 from rfl)
        obtain ⟨pd, hpd⟩ : ∃ pd, pd = b.size - s := ⟨_, rfl⟩
        rw [← hpd] at HKB hkl HKN
        generalize hkn : keepN xs 3 pd = kn at *
        have hsub : (b.size : Int) - (s : Int) = (pd : Int) := by omega
        have HPW := Lib.hid (show IntKind.i64.wrap (pd : Int) = (pd : Int) by rw [IntKind.wrap_i64]; omega)
        have hw : IntKind.i64.wrap ((s : Int) + (kn : Int)) = ((s + kn : Nat) : Int) := by rw [IntKind.wrap_i64]; omega
        have hw2 : (s : Int) + (kn : Int) = ((s + kn : Nat) : Int) := by omega
        have hez : (b.extract 0 (s + kn)).size = s + kn := by rw [ByteArray.size_extract]; omega
        have HCA := Lib.hid (fun (W : World) (hI : IsD X w0 W g room left down (fallTo xs A 3) K Vx) (hB : Below w0.heap.size w0 W) => all_calls2 3 (by decide) (upd_at (fallTo xs A 3) 3 (some (b.extract 0 (s + kn), s))) (hI.shorter 3 (by decide) hAx hv (s + kn) (by omega)) (hB.setCell (p := ⟨K 3, 0, none⟩) h2 (.slice R (s + kn) c)))
        have HF : Hid (upd (upd (fallTo xs A 3) 3 (some (b.extract 0 (s + kn), s))) 3 (some (b.extract 0 (s + kn), (b.extract 0 (s + kn)).size)) = fallTo xs A 4) := Lib.hid (by rw [upd_upd, fallTo_succ xs A 3, HKB.out])
        have HMM : Hid (∀ k, (∀ i, i < 4 → (A i).isSome = true → k ≠ K i) → k ≠ K 3) := Lib.hid (fun k hk => hk 3 (by decide) (by rw [hA]; rfl))
        have ht0 : (0 : Int) ≤ ((s + kn : Nat) : Int) := by omega
        have ht1 : ((s + kn : Nat) : Int) ≤ (c : Int) := by omega
        obtain ⟨t, htt⟩ : ∃ t, t = s + kn := ⟨_, rfl⟩
        have HWT := Lib.hid (show IntKind.i64.wrap (t : Int) = (t : Int) by rw [IntKind.wrap_i64]; omega)
        rw [← htt] at hw hw2 HCA HF ht0 ht1
        clear hq h1 h3 hv hAx hA hkl hsb hpd HKB hez
        have HT := Lib.hid htt
        clear htt hkn
        rcases (show 3 < xs.length ∨ xs.length ≤ 3 by omega) with hln | hln
        · obtain ⟨ad, rfl, hcell⟩ := HS1.out hln
          have hab : (ad.add 3).block = ad.block := by unfold Addr.add; split <;> rfl
          have hcx : wr.cell? { block := ad.block, off := ad.off + 3 } = some (.int .i64 (rd xs 3)) := by
            have h := (cell_of_heap (W' := wr) (HM.out _ (by rw [hab]; exact HKF.out ad rfl (by omega)))).trans hcell
            simpa [Addr.add] using h
          rw [if_pos hln] at HKN
          obtain ⟨q, hq⟩ : ∃ q, q = rd xs 3 := ⟨_, rfl⟩
          rw [← hq] at HKN hcx
          have hmm := HKN.out
          have hTT := HT.out
          have EQ := Lib.hid (show (if IntKind.i64.wrap (pd : Int) < if q < 0 then 0 else q then IntKind.i64.wrap (pd : Int) else if q < 0 then 0 else q) = (kn : Int) by rw [HPW.out]; by_cases hx : q < 0 <;> simp only [hx, if_true, if_false] <;> split <;> omega)
          clear hcell hq HKN hmm hTT
          go_wp2_with fail
          go_region_held3 (fun w' => w'.cell? { block := ad.block, off := ad.off + 3 } = some (.int .i64 q) ∧ w'.cell? ⟨K 3, 0, none⟩ = some (.slice R b.size c) ∧ w'.cell? ⟨K 3, 1, none⟩ = some (.int .i64 (s : Int))) (first | exact ⟨hcx, c0, c1⟩ | go_keep) (fail)
          rw [EQ.out]
          generalize (if q < 0 then (0 : Int) else q) = q2
          have hwt := HWT.out
          go_wp2_with fail
          go_region
          go_wp2_with fail
          refine (HCA.out wr.drew.drew HI.out.drew.drew (below_drew1 (below_drew1 HB.out))).mono ?_
          rintro e w3 ⟨rfl, ⟨V3, hI3⟩, hB3, hM3⟩
          have HI3 := Lib.hid (show IsD X w0 w3 g room left down (fallTo xs A 4) K V3 by rw [← HF.out]; exact hI3)
          have HB3 := Lib.hid hB3
          have HM3 : Hid (∀ k, (∀ i, i < 4 → (A i).isSome = true → k ≠ K i) → w3.heap[k]? = w.heap[k]?) := Lib.hid (fun k hk => (hM3 k (HMM.out k hk)).trans ((Below.heap_setCell wr.drew.drew ⟨K 3, 0, none⟩ (.slice R t c) k (HMM.out k hk)).trans (HM.out k hk)))
          clear hI3 hB3 hM3 HCA
          go_wp2
          go_roundg (gk - 1)
          case measure => have := HG.out; omega
          case rel => exact ⟨4, V3, by decide, by go_num, ⟨by have := HG.out; omega⟩, ⟨HI3.out, HB3.out, HM3.out⟩⟩
        · rw [if_neg (by omega)] at HKN
          have hk0 : t = s := by have := HKN.out; have := HT.out; omega
          subst hk0
          clear HKN hw hw2
          go_wp2_with fail
          go_region
          go_wp2_with fail
          refine (HCA.out wr.drew HI.out.drew (below_drew1 HB.out)).mono ?_
          rintro e w3 ⟨rfl, ⟨V3, hI3⟩, hB3, hM3⟩
          have HI3 := Lib.hid (show IsD X w0 w3 g room left down (fallTo xs A 4) K V3 by rw [← HF.out]; exact hI3)
          have HB3 := Lib.hid hB3
          have HM3 : Hid (∀ k, (∀ i, i < 4 → (A i).isSome = true → k ≠ K i) → w3.heap[k]? = w.heap[k]?) := Lib.hid (fun k hk => (hM3 k (HMM.out k hk)).trans ((Below.heap_setCell wr.drew ⟨K 3, 0, none⟩ (.slice R t c) k (HMM.out k hk)).trans (HM.out k hk)))
          clear hI3 hB3 hM3 HCA
          go_wp2
          go_roundg (gk - 1)
          case measure => have := HG.out; omega
          case rel => exact ⟨4, V3, by decide, by go_num, ⟨by have := HG.out; omega⟩, ⟨HI3.out, HB3.out, HM3.out⟩⟩
    · have f1 := HI.out.f 1
      have f2 := HI.out.f 2
      have c1 := HI.out.c1
      have c2 := HI.out.c2
      have HE := Lib.hid (HI.out.setDown false)
      have HE2 := Lib.hid (HE.out.setLeft (-1))
      have HB2 := Lib.hid ((HB.out.setCell (p := ⟨g, 2, none⟩) HI.out.hg (.bool false)).setCell (p := ⟨g, 1, none⟩) HI.out.hg (.int .i64 (-1)))
      have c12 := HE.out.c1
      have f12 := HE.out.f 1
      clear hxs HE
      go_wp2
      go_end0
      exact ⟨rfl, ⟨_, HE2.out⟩, HB2.out⟩
end
end Go.Proofs.Ytahfcnbdladfbaa

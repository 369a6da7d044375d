/- The drum's Trim and Has. Conditions: those that each theorem names. -/
import Derived.Test.YtahfcnbdladfbaaDg
set_option linter.unusedVariables false
set_option linter.unusedSimpArgs false
namespace Go.Proofs.Ytahfcnbdladfbaa
open Go.RowKit Go.Proofs.YtahfcnbdladfbaaW.PrintWords

section
variable {X : Nat → Obj → Prop} {w0 w : World} {g : Nat} {room left : Int} {down : Bool} {A : Nat → Ar} {K : Nat → Nat} {V : Nat → Value}
/-- What a trim is refused for, and what it does. -/
def trimRef (size : Int) (a : Ar) : Int := if a.isSome then (if 0 ≤ size then 0 else 1) else 12
def trimAct (size : Int) (a : Ar) : Ar := a.map fun x => (x.1.extract 0 (min size (x.1.size : Int)).toNat, (x.1.extract 0 (min size (x.1.size : Int)).toNat).size)
theorem trim1_calls (bs : Nat) (size : Int) (n : Nat) (h2 : w.heap[bs]? = some (.cells #[.int .i64 size] 3 (0, 0))) :
    Calls Try.prog 42 #[ptr (A n) (K n), .pointer (some ⟨bs, 0, none⟩)] w fun e w' => e = .returned (.int .i64 (trimRef size (A n))) ∧ w' = w := by
  have d2 : w.cell? ⟨bs, 0, none⟩ = some (.int .i64 size) := (blk_cell h2 0).trans rfl
  have HT := Lib.hid (there_calls (A n) (K n) w)
  clear h2
  generalize ptr (A n) (K n) = pv at *
  cases hA : A n with
  | none =>
    rw [hA] at HT
    have HR : Hid (trimRef size none = 12) := rfl
    go_enter Try.func42, Try.ntmps42
    go_wp2_with fail
    refine HT.out.mono ?_
    rintro e w1 ⟨rfl, rfl⟩
    go_wp2_with fail
    all_goals go_ret
    all_goals exact ⟨by rw [HR.out]; rfl, rfl⟩
  | some x =>
    rw [hA] at HT
    rcases (show 0 ≤ size ∨ ¬ 0 ≤ size by omega) with hs | hs
    · have HR : Hid (trimRef size (some x) = 0) := Lib.hid (if_pos hs)
      go_enter Try.func42, Try.ntmps42
      go_wp2_with fail
      refine HT.out.mono ?_
      rintro e w1 ⟨rfl, rfl⟩
      go_wp2_with fail
      all_goals go_ret
      all_goals exact ⟨by rw [HR.out]; rfl, rfl⟩
    · have HR : Hid (trimRef size (some x) = 1) := Lib.hid (if_neg hs)
      go_enter Try.func42, Try.ntmps42
      go_wp2_with fail
      refine HT.out.mono ?_
      rintro e w1 ⟨rfl, rfl⟩
      go_wp2_with fail
      all_goals go_ret
      all_goals exact ⟨by rw [HR.out]; rfl, rfl⟩
theorem trim2_calls (n : Nat) (hn : n < 4) (bs : Nat) (size : Int) (hs0 : 0 ≤ size) (h2 : w.heap[bs]? = some (.cells #[.int .i64 size] 3 (0, 0))) {b : ByteArray} {sr : Nat} (hA : A n = some (b, sr)) (hI : IsD X w0 w g room left down A K V) (hB : Below w0.heap.size w0 w) (hbz : b.size ≤ 9223372036854775807) :
    Calls Try.prog 43 #[.pointer (some ⟨g, 3 + n, none⟩), .pointer (some ⟨bs, 0, none⟩)] w fun e w' => e = .returned (.tuple #[]) ∧ (∃ K' V', IsD X w0 w' g room left down (upd A n (trimAct size (A n))) K' V') ∧ Below w0.heap.size w0 w' := by
  have d2 : w.cell? ⟨bs, 0, none⟩ = some (.int .i64 size) := (blk_cell h2 0).trans rfl
  have cp0 := hI.cp n hn
  rw [ptr_some hA] at cp0
  obtain ⟨h1, h3, h4⟩ := hI.ha n hn b sr hA
  have c0 : w.cell? ⟨K n, 0, none⟩ = some (V n) := (blk_cell h1 0).trans rfl
  have c1 : w.cell? ⟨K n, 1, none⟩ = some (.int .i64 (sr : Int)) := (blk_cell h1 1).trans rfl
  have f0 := blk_frozen h1 0
  have f1 := blk_frozen h1 1
  obtain ⟨R, c, hv⟩ := own_slice h4
  have hcap : b.size ≤ c := own_cap (by rw [← hv]; exact h4)
  rw [hv] at c0
  obtain ⟨m, hm⟩ : ∃ m, m = (min size (b.size : Int)).toNat := ⟨_, rfl⟩
  have hez : (b.extract 0 m).size = m := by rw [ByteArray.size_extract]; omega
  have HE : Hid (∀ W : World, IsD X w0 W g room left down A K V → IsD X w0 ((W.setCell ⟨K n, 0, none⟩ (.slice R m c)).setCell ⟨K n, 1, none⟩ (.int .i64 (m : Int))) g room left down (upd A n (trimAct size (A n))) K (upd (upd V n (.slice R m c)) n (upd V n (.slice R m c) n))) := Lib.hid (fun W hI => by
    have h := (hI.shorter n hn hA hv m (by omega)).setSure n hn (upd_at A n (some (b.extract 0 m, sr))) m
    have e : upd (upd A n (some (b.extract 0 m, sr))) n (some (b.extract 0 m, m)) = upd A n (trimAct size (A n)) := by
      rw [upd_upd, hA]
      unfold trimAct
      simp only [Option.map]
      rw [← hm, hez]
    rw [e] at h
    exact h)
  have HI := Lib.hid hI
  have HB := Lib.hid hB
  have H3 := Lib.hid h3
  have EQ := Lib.hid (show (if (b.size : Int) < size then (b.size : Int) else size) = (m : Int) by split <;> omega)
  have hm0 : (0 : Int) ≤ (m : Int) := by omega
  have hm1 : (m : Int) ≤ (c : Int) := by omega
  have hmw : IntKind.i64.wrap (m : Int) = (m : Int) := by rw [IntKind.wrap_i64]; omega
  have hways : (size = (m : Int) ∧ m ≤ b.size) ∨ ((b.size : Int) < size ∧ m = b.size) := by omega
  clear hI hB h1 h3 h4 h2 hv hA hez hm EQ
  generalize K n = kn at *
  rcases hways with ⟨rfl, hle⟩ | ⟨hlt, rfl⟩
  · have hle2 : ¬ (b.size : Int) < (m : Int) := by omega
    go_enter Try.func43, Try.ntmps43
    go_wp2_with fail
    go_region
    go_wp2_with fail
    go_end0
    exact ⟨rfl, ⟨K, _, HE.out _ HI.out.drew⟩, ((below_drew1 HB.out).setCell H3.out _).setCell H3.out _⟩
  · go_enter Try.func43, Try.ntmps43
    go_wp2_with fail
    go_region
    go_wp2_with fail
    go_end0
    exact ⟨rfl, ⟨K, _, HE.out _ HI.out.drew⟩, ((below_drew1 HB.out).setCell H3.out _).setCell H3.out _⟩
set_option maxRecDepth 100000 in
set_option maxHeartbeats 4000000 in
theorem step_trim (bs : Nat) (size : Int) (n : Int) (hI : IsD X w0 w g room left down A K V) (hB : Below w0.heap.size w0 w) (hl : -1 ≤ left ∧ left ≤ 9223372036854775807) (hn64 : -9223372036854775808 ≤ n ∧ n ≤ 9223372036854775807) (hbs : w.heap[bs]? = some (.cells #[.int .i64 size] 3 (0, 0))) (hbg : g < bs) (hu : usedTo A 4 ≤ 9223372036854775807) :
    Calls Try.prog 29 #[.pointer (some ⟨g, 0, none⟩), .int .i64 n, .func (Fn.func 42) #[] #[.pointer (some ⟨bs, 0, none⟩)], .func (Fn.func 43) #[] #[.pointer (some ⟨bs, 0, none⟩)]] w fun e w' => e = .returned (.int .i64 (stepR left down A n (trimRef size) (trimAct size)).1) ∧ AtD X w0 w' g room (stepR left down A n (trimRef size) (trimAct size)) := by
  have HI := Lib.hid hI
  have HB := Lib.hid hB
  have HBS := Lib.hid hbs
  have HBG := Lib.hid hbg
  have HU := Lib.hid hu
  clear hbs hbg hu
  clear hI hB
  cases down with
  | true =>
    have HR : Hid (stepR left true A n (trimRef size) (trimAct size) = (11, left, true, A)) := Lib.hid (by unfold stepR; rw [if_pos rfl])
    rw [HR.out]
    go_enter Try.func29, Try.ntmps29
    go_wp2_with fail
    refine (down_calls HI.out).mono ?_
    rintro e w1 ⟨rfl, rfl⟩
    go_wp2_with fail
    go_ret
    exact ⟨rfl, ⟨_, _, HI.out⟩, HB.out⟩
  | false =>
    rcases (show (n < 0 ∨ 4 ≤ n) ∨ (0 ≤ n ∧ n < 4) by omega) with hn | ⟨hn0, hn4⟩
    · have HR : Hid (stepR left false A n (trimRef size) (trimAct size) = (1, left, false, A)) := Lib.hid (by unfold stepR; rw [if_neg (by decide), if_pos hn])
      rw [HR.out]
      rcases hn with hn | hn
      ·
        go_enter Try.func29, Try.ntmps29
        go_wp2_with fail
        refine (down_calls HI.out).mono ?_
        rintro e w1 ⟨rfl, rfl⟩
        go_wp2_with fail
        go_ret
        exact ⟨rfl, ⟨_, _, HI.out⟩, HB.out⟩
      ·
        go_enter Try.func29, Try.ntmps29
        go_wp2_with fail
        refine (down_calls HI.out).mono ?_
        rintro e w1 ⟨rfl, rfl⟩
        go_wp2_with fail
        go_ret
        exact ⟨rfl, ⟨_, _, HI.out⟩, HB.out⟩
    · obtain ⟨i, rfl⟩ : ∃ i : Nat, n = (i : Int) := ⟨n.toNat, by omega⟩
      have hi : i < 4 := by omega
      have hcp := HI.out.cp i hi
      have c1 := HI.out.c1
      have f1 := HI.out.f 1
      have c2 := HI.out.c2
      have f2 := HI.out.f 2
      have HS : Hid (stepR left false A (i : Int) (trimRef size) (trimAct size) = if (trimRef size) (A i) ≠ 0 then ((trimRef size) (A i), left, false, A) else if left = 0 then (11, left, true, A) else (0, max (left - 1) (-1), false, upd A i ((trimAct size) (A i)))) := Lib.hid (by unfold stepR; rw [if_neg (by decide), if_neg (by omega), Int.toNat_natCast]; first | done | rfl)
      generalize hst : stepR left false A (i : Int) (trimRef size) (trimAct size) = st at *
      clear hst
      obtain ⟨hl0, hl1⟩ := hl
      have HCP := Lib.hid hcp
      clear hcp hn0
      generalize hpv : ptr (A i) (K i) = pv
      have cp : w.cell? ⟨g, 3 + i, none⟩ = some pv := by rw [← hpv]; exact HCP.out
      have HPV := Lib.hid hpv
      clear hpv HCP
      go_enter Try.func29, Try.ntmps29
      go_wp2_with fail
      refine (down_calls HI.out).mono ?_
      rintro e w1 ⟨rfl, rfl⟩
      go_wp2_with fail
      rw [← HPV.out]
      refine (trim1_calls bs size i HBS.out).mono ?_
      rintro e w2 ⟨rfl, rfl⟩
      rw [HPV.out]
      have HSZ := Lib.hid (sz_le A i hi)
      cases hA : A i with
      | none =>
        rw [hA] at HS
        have HA := Lib.hid hA
        have hwr : trimRef size none = 12 := rfl
        clear hA
        have HS2 : Hid (st = (12, left, false, A)) := Lib.hid (by rw [HS.out]; rw [hwr]; rfl)
        clear HS
        go_wp2_with fail
        go_ret
        rw [HS2.out]
        exact ⟨rfl, ⟨_, _, HI.out⟩, HB.out⟩
      | some x =>
        rw [hA] at HS
        have HA := Lib.hid hA
        clear hA
        obtain ⟨b, sr⟩ := x
        rcases (show 0 ≤ size ∨ ¬ 0 ≤ size by omega) with hrm | hrm
        · have hwr : trimRef size (some (b, sr)) = 0 := if_pos hrm
          have HRM := Lib.hid hrm
          clear hrm
          rcases (show left = 0 ∨ left = -1 ∨ 1 ≤ left by omega) with h0 | h0 | h0
          · subst h0
            have HS2 : Hid (st = (11, 0, true, A)) := Lib.hid (by rw [HS.out]; rw [hwr]; rfl)
            clear HS
            go_wp2_with fail
            go_ret
            rw [HS2.out]
            exact ⟨rfl, ⟨_, _, HI.out.setDown true⟩, HB.out.setCell HI.out.hg _⟩
          · subst h0
            have HS2 : Hid (st = (0, -1, false, upd A i ((trimAct size) (A i)))) := Lib.hid (by rw [HS.out, HA.out, hwr]; rfl)
            have HI2 := Lib.hid (HI.out.setLeft (-1))
            have HB2 := Lib.hid (HB.out.setCell HI.out.hg (p := ⟨g, 1, none⟩) (.int .i64 (-1)))
            clear HS
            have HBS3 := Lib.hid ((Below.heap_setCell _ ⟨g, 1, none⟩ (.int .i64 (-1)) bs (Nat.ne_of_gt HBG.out)).trans HBS.out)
            go_wp2_with fail
            refine (trim2_calls i hi bs size HRM.out HBS3.out HA.out HI2.out HB2.out (by have h1 := HU.out; have h2 := HSZ.out; rw [HA.out] at h2; have h3 : b.size ≤ usedTo A 4 := h2; omega)).mono ?_
            rintro e w3 ⟨rfl, h3, h4⟩
            have H3 := Lib.hid h3
            have H4 := Lib.hid h4
            clear h3 h4
            go_wp2_with fail
            go_ret
            rw [HS2.out]
            exact ⟨rfl, by first | exact H3.out | (rw [HA.out]; exact H3.out), H4.out⟩
          · have HS2 : Hid (st = (0, left - 1, false, upd A i ((trimAct size) (A i)))) := Lib.hid (by rw [HS.out, HA.out, show max (left - 1) (-1) = left - 1 by omega]; rw [hwr, if_neg (by decide), if_neg (by omega)])
            have HI2 := Lib.hid (HI.out.setLeft (left - 1))
            have HB2 := Lib.hid (HB.out.setCell HI.out.hg (p := ⟨g, 1, none⟩) (.int .i64 (left - 1)))
            have hm1 : ¬ left = 0 := by omega
            have hm2 : max (left - 1) (-1) = left - 1 := by omega
            have hm3 : (-1 : Int) ≤ left - 1 := by omega
            clear HS
            have HBS3 := Lib.hid ((Below.heap_setCell _ ⟨g, 1, none⟩ (.int .i64 (left - 1)) bs (Nat.ne_of_gt HBG.out)).trans HBS.out)
            go_wp2_with fail
            refine (trim2_calls i hi bs size HRM.out HBS3.out HA.out HI2.out HB2.out (by have h1 := HU.out; have h2 := HSZ.out; rw [HA.out] at h2; have h3 : b.size ≤ usedTo A 4 := h2; omega)).mono ?_
            rintro e w3 ⟨rfl, h3, h4⟩
            have H3 := Lib.hid h3
            have H4 := Lib.hid h4
            clear h3 h4
            go_wp2_with fail
            go_ret
            rw [HS2.out]
            exact ⟨rfl, by first | exact H3.out | (rw [HA.out]; exact H3.out), H4.out⟩
        · have hwr : trimRef size (some (b, sr)) = 1 := if_neg hrm
          clear hrm
          have HS2 : Hid (st = (1, left, false, A)) := Lib.hid (by rw [HS.out]; rw [hwr]; rfl)
          clear HS
          go_wp2_with fail
          go_ret
          rw [HS2.out]
          exact ⟨rfl, ⟨_, _, HI.out⟩, HB.out⟩
theorem trim_calls (n size : Int) (hI : IsD X w0 w g room left down A K V) (hB : Below w0.heap.size w0 w) (hl : -1 ≤ left ∧ left ≤ 9223372036854775807) (hn64 : -9223372036854775808 ≤ n ∧ n ≤ 9223372036854775807) (hu : usedTo A 4 ≤ 9223372036854775807) :
    Calls Try.prog 38 #[.pointer (some ⟨g, 0, none⟩), .int .i64 n, .int .i64 size] w fun e w' => e = .returned (.int .i64 (stepR left down A n (trimRef size) (trimAct size)).1) ∧ AtD X w0 w' g room (stepR left down A n (trimRef size) (trimAct size)) := by
  have h1 := hI.alloc (.cells #[.int .i64 size] 3)
  have HS := Lib.hid (step_trim w.heap.size size n h1 (below_alloc' hB _) hl hn64 (heap_alloc_new w _) (lt_of_at hI.hb) hu)
  clear hI hB h1
  go_enter Try.func38, Try.ntmps38
  go_wp2_with fail
  refine HS.out.mono ?_
  rintro e w1 ⟨rfl, h⟩
  have H := Lib.hid h
  clear h
  go_wp2
  go_ret
  exact ⟨rfl, H.out⟩
/-- Is an area there? -/
def hasR (A : Nat → Ar) (n : Int) : Bool := if n < 0 ∨ 4 ≤ n then false else (A n.toNat).isSome
theorem has_calls (n : Int) (hI : IsD X w0 w g room left down A K V) : Calls Try.prog 19 #[.pointer (some ⟨g, 0, none⟩), .int .i64 n] w fun e w' => e = .returned (.bool (hasR A n)) ∧ w' = w := by
  rcases (show n < 0 ∨ 4 ≤ n ∨ (0 ≤ n ∧ n < 4) by omega) with hn | hn | ⟨hn0, hn4⟩
  · have HR : Hid (hasR A n = false) := Lib.hid (if_pos (.inl hn))
    clear hI
    go_enter Try.func19, Try.ntmps19
    go_wp2
    go_ret
    exact ⟨by rw [HR.out]; rfl, rfl⟩
  · have HR : Hid (hasR A n = false) := Lib.hid (if_pos (.inr hn))
    clear hI
    go_enter Try.func19, Try.ntmps19
    go_wp2
    go_ret
    exact ⟨by rw [HR.out]; rfl, rfl⟩
  · obtain ⟨i, rfl⟩ : ∃ i : Nat, n = (i : Int) := ⟨n.toNat, by omega⟩
    have hi : i < 4 := by omega
    have HR0 : Hid (hasR A (i : Int) = (A i).isSome) := Lib.hid (by unfold hasR; rw [if_neg (by omega), Int.toNat_natCast])
    have cp := hI.cp i hi
    clear hn0 hI
    cases hA : A i with
    | none =>
      rw [hA] at HR0
      rw [ptr_none hA] at cp
      clear hA
      go_enter Try.func19, Try.ntmps19
      go_wp2
      go_ret
      exact ⟨by rw [HR0.out]; rfl, rfl⟩
    | some x =>
      rw [hA] at HR0
      rw [ptr_some hA] at cp
      clear hA
      go_enter Try.func19, Try.ntmps19
      go_wp2
      go_ret
      exact ⟨by rw [HR0.out]; rfl, rfl⟩
end
end Go.Proofs.Ytahfcnbdladfbaa

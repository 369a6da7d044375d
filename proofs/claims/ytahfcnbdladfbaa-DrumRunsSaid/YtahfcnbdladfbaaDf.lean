/- The drum's Write, Read, Has and Fall. Conditions: those that each theorem names. -/
import Derived.Test.YtahfcnbdladfbaaDe
set_option linter.unusedVariables false
set_option linter.unusedSimpArgs false
namespace Go.Proofs.Ytahfcnbdladfbaa
open Go.RowKit Go.Proofs.YtahfcnbdladfbaaW.PrintWords

def Bytes (xs : List Int) : Prop := ∀ x ∈ xs, 0 ≤ x ∧ x ≤ 255
theorem bytesOf_nums (xs : List Int) (h : Bytes xs) : bytesOf (strOfNums xs) = xs := by
  unfold bytesOf
  rw [strOfNums_data, List.map_map]
  conv => rhs; rw [← List.map_id xs]
  apply List.map_congr_left
  intro x hx
  have := h x hx
  simp
  omega
theorem map_inj {α β : Type} (f : α → β) (hf : ∀ a b, f a = f b → a = b) : ∀ l l' : List α, l.map f = l'.map f → l = l' := by
  intro l
  induction l with
  | nil => intro l' h; cases l' with
    | nil => rfl
    | cons => simp at h
  | cons a l ih => intro l' h; cases l' with
    | nil => simp at h
    | cons b l' =>
      simp only [List.map_cons, List.cons.injEq] at h
      rw [hf a b h.1, ih l' h.2]
theorem bytes_ext {a b : ByteArray} (h : bytesOf a = bytesOf b) : a = b := by
  have h2 : a.data.toList = b.data.toList := by
    unfold bytesOf at h
    refine map_inj _ ?_ _ _ h
    intro x y hxy
    have : x.toNat = y.toNat := by omega
    exact UInt8.toNat_inj.1 this
  have h3 : a.data = b.data := Array.toList_inj.1 h2
  cases a; cases b; simp_all
theorem bytesOf_bytes (s : ByteArray) : Bytes (bytesOf s) := by
  intro x hx
  unfold bytesOf at hx
  obtain ⟨b, _, rfl⟩ := List.mem_map.1 hx
  have := b.toNat_lt
  omega
theorem strOf_bytes (s : ByteArray) : strOfNums (bytesOf s) = s := bytes_ext (bytesOf_nums _ (bytesOf_bytes s))
theorem sz_le (A : Nat → Ar) (i : Nat) (hi : i < 4) : sz (A i) ≤ usedTo A 4 := by
  rcases (show i = 0 ∨ i = 1 ∨ i = 2 ∨ i = 3 by omega) with rfl | rfl | rfl | rfl <;> simp only [usedTo] <;> omega
section
variable {X : Nat → Obj → Prop} {w0 w : World} {g : Nat} {room left : Int} {down : Bool} {A : Nat → Ar} {K : Nat → Nat} {V : Nat → Value}
set_option maxRecDepth 100000 in
set_option maxHeartbeats 4000000 in
theorem step_write (bd bs : Nat) (s : ByteArray) (n : Int) (hI : IsD X w0 w g room left down A K V) (hB : Below w0.heap.size w0 w) (hl : -1 ≤ left ∧ left ≤ 9223372036854775807) (hn64 : -9223372036854775808 ≤ n ∧ n ≤ 9223372036854775807) (hbd : w.heap[bd]? = some (.cells #[.pointer (some ⟨g, 0, none⟩)] 23 (0, 0))) (hbs : w.heap[bs]? = some (.cells #[.string s] 9 (0, 0))) (hu : usedTo A 4 + s.size ≤ 9223372036854775807) (hrm0 : room ≤ 140737488355328) :
    Calls Try.prog 29 #[.pointer (some ⟨g, 0, none⟩), .int .i64 n, .func (Fn.func 32) #[] #[.pointer (some ⟨bd, 0, none⟩), .pointer (some ⟨bs, 0, none⟩)], .func (Fn.func 34) #[] #[.pointer (some ⟨bs, 0, none⟩)]] w fun e w' => e = .returned (.int .i64 (stepR left down A n (writeRef (usedTo A 4) s.size room) (writeAct s)).1) ∧ AtD X w0 w' g room (stepR left down A n (writeRef (usedTo A 4) s.size room) (writeAct s)) := by
  have HI := Lib.hid hI
  have HB := Lib.hid hB
  have HBD := Lib.hid hbd
  have HBS := Lib.hid hbs
  have HU := Lib.hid hu
  have HR0 := Lib.hid hrm0
  clear hbd hbs hu hrm0
  clear hI hB
  cases down with
  | true =>
    have HR : Hid (stepR left true A n (writeRef (usedTo A 4) s.size room) (writeAct s) = (11, left, true, A)) := Lib.hid (by unfold stepR; rw [if_pos rfl])
    rw [HR.out]
    go_enter Try.func29, Try.ntmps29
    go_wp2_with fail
    refine (down_calls HI.out).mono ?_
    rintro e w1 ⟨rfl, rfl⟩
    go_wp2_with fail
    go_ret
    exact ⟨rfl, ⟨_, _, HI.out⟩, HB.out⟩
  | false =>
    rcases (show (n < 0 ∨ 4 ≤ n) ∨ (0 ≤ n ∧ n < 4) by omega) with hn | ⟨hn0, hn4⟩
    · have HR : Hid (stepR left false A n (writeRef (usedTo A 4) s.size room) (writeAct s) = (1, left, false, A)) := Lib.hid (by unfold stepR; rw [if_neg (by decide), if_pos hn])
      rw [HR.out]
      rcases hn with hn | hn
      ·
        go_enter Try.func29, Try.ntmps29
        go_wp2_with fail
        refine (down_calls HI.out).mono ?_
        rintro e w1 ⟨rfl, rfl⟩
        go_wp2_with fail
        go_ret
        exact ⟨rfl, ⟨_, _, HI.out⟩, HB.out⟩
      ·
        go_enter Try.func29, Try.ntmps29
        go_wp2_with fail
        refine (down_calls HI.out).mono ?_
        rintro e w1 ⟨rfl, rfl⟩
        go_wp2_with fail
        go_ret
        exact ⟨rfl, ⟨_, _, HI.out⟩, HB.out⟩
    · obtain ⟨i, rfl⟩ : ∃ i : Nat, n = (i : Int) := ⟨n.toNat, by omega⟩
      have hi : i < 4 := by omega
      have hcp := HI.out.cp i hi
      have c1 := HI.out.c1
      have f1 := HI.out.f 1
      have c2 := HI.out.c2
      have f2 := HI.out.f 2
      have HS : Hid (stepR left false A (i : Int) (writeRef (usedTo A 4) s.size room) (writeAct s) = if (writeRef (usedTo A 4) s.size room) (A i) ≠ 0 then ((writeRef (usedTo A 4) s.size room) (A i), left, false, A) else if left = 0 then (11, left, true, A) else (0, max (left - 1) (-1), false, upd A i ((writeAct s) (A i)))) := Lib.hid (by unfold stepR; rw [if_neg (by decide), if_neg (by omega), Int.toNat_natCast]; first | done | rfl)
      generalize hst : stepR left false A (i : Int) (writeRef (usedTo A 4) s.size room) (writeAct s) = st at *
      clear hst
      obtain ⟨hl0, hl1⟩ := hl
      have HCP := Lib.hid hcp
      clear hcp hn0
      generalize hpv : ptr (A i) (K i) = pv
      have cp : w.cell? ⟨g, 3 + i, none⟩ = some pv := by rw [← hpv]; exact HCP.out
      have HPV := Lib.hid hpv
      clear hpv HCP
      go_enter Try.func29, Try.ntmps29
      go_wp2_with fail
      refine (down_calls HI.out).mono ?_
      rintro e w1 ⟨rfl, rfl⟩
      go_wp2_with fail
      rw [← HPV.out]
      refine (write1_calls bd bs s i HBD.out HBS.out HI.out HB.out (by have := HU.out; omega)).mono ?_
      rintro e w2 ⟨rfl, ⟨m, rfl⟩⟩
      rw [HPV.out]
      replace HI : Hid (IsD X w0 (w1.drewN m) g room left false A K V) := Lib.hid (HI.out.move fun _ _ => rfl)
      replace HB : Hid (Below w0.heap.size w0 (w1.drewN m)) := Lib.hid (pw_below_drewN HB.out m)
      have c1 := HI.out.c1
      have f1 := HI.out.f 1
      have c2 := HI.out.c2
      have f2 := HI.out.f 2
      have cp : (w1.drewN m).cell? ⟨g, 3 + i, none⟩ = some pv := by rw [← HPV.out]; exact HI.out.cp i hi
      have HBS2 : Hid ((w1.drewN m).heap[bs]? = some (.cells #[.string s] 9 (0, 0))) := HBS.out
      generalize w1.drewN m = w2 at *
      have HSZ := Lib.hid (sz_le A i hi)
      cases hA : A i with
      | none =>
        rw [hA] at HS
        have HA := Lib.hid hA
        have hwr : writeRef (usedTo A 4) s.size room none = 12 := rfl
        clear hA
        have HS2 : Hid (st = (12, left, false, A)) := Lib.hid (by rw [HS.out]; rw [hwr]; rfl)
        clear HS
        go_wp2_with fail
        go_ret
        rw [HS2.out]
        exact ⟨rfl, ⟨_, _, HI.out⟩, HB.out⟩
      | some x =>
        rw [hA] at HS
        have HA := Lib.hid hA
        clear hA
        obtain ⟨b, sr⟩ := x
        rcases (show ((usedTo A 4 + s.size : Nat) : Int) ≤ room ∨ ¬ ((usedTo A 4 + s.size : Nat) : Int) ≤ room by omega) with hrm | hrm
        · have hwr : writeRef (usedTo A 4) s.size room (some (b, sr)) = 0 := if_pos hrm
          have HRM := Lib.hid hrm
          clear hrm
          rcases (show left = 0 ∨ left = -1 ∨ 1 ≤ left by omega) with h0 | h0 | h0
          · subst h0
            have HS2 : Hid (st = (11, 0, true, A)) := Lib.hid (by rw [HS.out]; rw [hwr]; rfl)
            clear HS
            go_wp2_with fail
            go_ret
            rw [HS2.out]
            exact ⟨rfl, ⟨_, _, HI.out.setDown true⟩, HB.out.setCell HI.out.hg _⟩
          · subst h0
            have HS2 : Hid (st = (0, -1, false, upd A i ((writeAct s) (A i)))) := Lib.hid (by rw [HS.out, HA.out, hwr]; rfl)
            have HI2 := Lib.hid (HI.out.setLeft (-1))
            have HB2 := Lib.hid (HB.out.setCell HI.out.hg (p := ⟨g, 1, none⟩) (.int .i64 (-1)))
            clear HS
            have HBS3 := Lib.hid ((Below.heap_setCell w2 ⟨g, 1, none⟩ (.int .i64 (-1)) bs (blk_ty HBS2.out HI.out.hb (by decide))).trans HBS2.out)
            go_wp2_with fail
            refine (write2_calls i hi bs s HBS3.out HA.out HI2.out HB2.out (by have h1 := HRM.out; have h4 := HR0.out; have h2 := HSZ.out; rw [HA.out] at h2; have h3 : b.size ≤ usedTo A 4 := h2; omega)).mono ?_
            rintro e w3 ⟨rfl, h3, h4⟩
            have H3 := Lib.hid h3
            have H4 := Lib.hid h4
            clear h3 h4
            go_wp2_with fail
            go_ret
            rw [HS2.out]
            exact ⟨rfl, by first | exact H3.out | (rw [HA.out]; exact H3.out), H4.out⟩
          · have HS2 : Hid (st = (0, left - 1, false, upd A i ((writeAct s) (A i)))) := Lib.hid (by rw [HS.out, HA.out, show max (left - 1) (-1) = left - 1 by omega]; rw [hwr, if_neg (by decide), if_neg (by omega)])
            have HI2 := Lib.hid (HI.out.setLeft (left - 1))
            have HB2 := Lib.hid (HB.out.setCell HI.out.hg (p := ⟨g, 1, none⟩) (.int .i64 (left - 1)))
            have hm1 : ¬ left = 0 := by omega
            have hm2 : max (left - 1) (-1) = left - 1 := by omega
            have hm3 : (-1 : Int) ≤ left - 1 := by omega
            clear HS
            have HBS3 := Lib.hid ((Below.heap_setCell w2 ⟨g, 1, none⟩ (.int .i64 (left - 1)) bs (blk_ty HBS2.out HI.out.hb (by decide))).trans HBS2.out)
            go_wp2_with fail
            refine (write2_calls i hi bs s HBS3.out HA.out HI2.out HB2.out (by have h1 := HRM.out; have h4 := HR0.out; have h2 := HSZ.out; rw [HA.out] at h2; have h3 : b.size ≤ usedTo A 4 := h2; omega)).mono ?_
            rintro e w3 ⟨rfl, h3, h4⟩
            have H3 := Lib.hid h3
            have H4 := Lib.hid h4
            clear h3 h4
            go_wp2_with fail
            go_ret
            rw [HS2.out]
            exact ⟨rfl, by first | exact H3.out | (rw [HA.out]; exact H3.out), H4.out⟩
        · have hwr : writeRef (usedTo A 4) s.size room (some (b, sr)) = 10 := if_neg hrm
          clear hrm
          have HS2 : Hid (st = (10, left, false, A)) := Lib.hid (by rw [HS.out]; rw [hwr]; rfl)
          clear HS
          go_wp2_with fail
          go_ret
          rw [HS2.out]
          exact ⟨rfl, ⟨_, _, HI.out⟩, HB.out⟩
theorem write_calls (n : Int) (s : ByteArray) (hI : IsD X w0 w g room left down A K V) (hB : Below w0.heap.size w0 w) (hl : -1 ≤ left ∧ left ≤ 9223372036854775807) (hn64 : -9223372036854775808 ≤ n ∧ n ≤ 9223372036854775807) (hu : usedTo A 4 + s.size ≤ 9223372036854775807) (hrm0 : room ≤ 140737488355328) :
    Calls Try.prog 11 #[.pointer (some ⟨g, 0, none⟩), .int .i64 n, .string s] w fun e w' => e = .returned (.int .i64 (stepR left down A n (writeRef (usedTo A 4) s.size room) (writeAct s)).1) ∧ AtD X w0 w' g room (stepR left down A n (writeRef (usedTo A 4) s.size room) (writeAct s)) := by
  have h1 := hI.alloc (.cells #[.pointer (some ⟨g, 0, none⟩)] 23)
  have h2 := h1.alloc (.cells #[.string s] 9)
  have HS := Lib.hid (step_write w.heap.size (w.heap.size + 1) s n h2 (below_alloc' (below_alloc' hB _) _) hl hn64 (((below_alloc (Below.refl (w.alloc (.cells #[.pointer (some ⟨g, 0, none⟩)] 23)).heap.size _) _).block w.heap.size (by simp)).trans (heap_alloc_new w _)) (by have := heap_alloc_new (w.alloc (.cells #[.pointer (some ⟨g, 0, none⟩)] 23)) (.cells #[.string s] 9); simpa using this) hu hrm0)
  clear hI hB h1 h2
  go_enter Try.func11, Try.ntmps11
  go_wp2_with fail
  refine HS.out.mono ?_
  rintro e w1 ⟨rfl, h⟩
  have H := Lib.hid h
  clear h
  go_wp2
  go_ret
  exact ⟨rfl, H.out⟩
/-- What is read: the text, and what it is refused for. -/
def readR (down : Bool) (A : Nat → Ar) (n : Int) : ByteArray × Int :=
  if down then (⟨#[]⟩, 11) else if n < 0 ∨ 4 ≤ n then (⟨#[]⟩, 1) else match A n.toNat with
    | none => (⟨#[]⟩, 12)
    | some x => (x.1, 0)
set_option maxRecDepth 100000 in
set_option maxHeartbeats 4000000 in
theorem read_calls (n : Int) (hI : IsD X w0 w g room left down A K V) (hB : Below w0.heap.size w0 w) (hn64 : -9223372036854775808 ≤ n ∧ n ≤ 9223372036854775807) :
    Calls Try.prog 17 #[.pointer (some ⟨g, 0, none⟩), .int .i64 n] w fun e w' => e = .returned (.tuple #[.string (readR down A n).1, .int .i64 (readR down A n).2]) ∧ IsD X w0 w' g room left down A K V ∧ Below w0.heap.size w0 w' := by
  have HI := Lib.hid hI
  have HB := Lib.hid hB
  clear hI hB
  cases down with
  | true =>
    have HR : Hid (readR true A n = (⟨#[]⟩, 11)) := Lib.hid (by unfold readR; rw [if_pos rfl])
    go_enter Try.func17, Try.ntmps17
    go_wp2_with fail
    refine (down_calls HI.out).mono ?_
    rintro e w1 ⟨rfl, rfl⟩
    go_wp2_with fail
    go_ret2
    exact ⟨by rw [HR.out]; rfl, HI.out, HB.out⟩
  | false =>
    rcases (show n < 0 ∨ 4 ≤ n ∨ (0 ≤ n ∧ n < 4) by omega) with hn | hn | ⟨hn0, hn4⟩
    · have HR : Hid (readR false A n = (⟨#[]⟩, 1)) := Lib.hid (by unfold readR; rw [if_neg (by decide), if_pos (.inl hn)])
      go_enter Try.func17, Try.ntmps17
      go_wp2_with fail
      refine (down_calls HI.out).mono ?_
      rintro e w1 ⟨rfl, rfl⟩
      go_wp2_with fail
      go_ret2
      exact ⟨by rw [HR.out]; rfl, HI.out, HB.out⟩
    · have HR : Hid (readR false A n = (⟨#[]⟩, 1)) := Lib.hid (by unfold readR; rw [if_neg (by decide), if_pos (.inr hn)])
      go_enter Try.func17, Try.ntmps17
      go_wp2_with fail
      refine (down_calls HI.out).mono ?_
      rintro e w1 ⟨rfl, rfl⟩
      go_wp2_with fail
      go_ret2
      exact ⟨by rw [HR.out]; rfl, HI.out, HB.out⟩
    · obtain ⟨i, rfl⟩ : ∃ i : Nat, n = (i : Int) := ⟨n.toNat, by omega⟩
      have hi : i < 4 := by omega
      have HR0 : Hid (readR false A (i : Int) = match A i with
        | none => (⟨#[]⟩, 12)
        | some x => (x.1, 0)) := Lib.hid (by unfold readR; rw [if_neg (by decide), if_neg (by omega), Int.toNat_natCast])
      have cp := HI.out.cp i hi
      clear hn0
      cases hA : A i with
      | none =>
        rw [hA] at HR0
        rw [ptr_none hA] at cp
        have HR : Hid (readR false A (i : Int) = (⟨#[]⟩, 12)) := HR0
        clear hA HR0
        go_enter Try.func17, Try.ntmps17
        go_wp2_with fail
        refine (down_calls HI.out).mono ?_
        rintro e w1 ⟨rfl, rfl⟩
        go_wp2_with fail
        go_ret2
        exact ⟨by rw [HR.out]; rfl, HI.out, HB.out⟩
      | some x =>
        obtain ⟨b, s⟩ := x
        rw [hA] at HR0
        rw [ptr_some hA] at cp
        have HR : Hid (readR false A (i : Int) = (b, 0)) := HR0
        obtain ⟨h1, h2, h3⟩ := HI.out.ha i hi b s hA
        have c0 : w.cell? ⟨K i, 0, none⟩ = some (V i) := (blk_cell h1 0).trans rfl
        obtain ⟨R, c, hv⟩ := own_slice h3
        rw [hv] at c0 h3
        have H3 := Lib.hid h3
        have hcv : ∀ m, (convert 64 9 (.slice R b.size c)).run Try.prog (w.drewN m) = .ok (.string b) (w.drewN m) := by
          intro m
          have h := string_of_reads (P := Try.prog) (w := w.drewN m) (src := 64) (dst := 9) (c := c) Try.underlying64 Try.underlying5 Try.underlying9 (show ReadsInt (w.drewN m) .u8 R b.size (bytesOf b) from own_reads' H3.out)
          rwa [strOf_bytes] at h
        have hcv0 : (convert 64 9 (.slice R b.size c)).run Try.prog w = .ok (.string b) w := hcv 0
        clear hcv
        clear hA HR0 h1 h2 h3 hv
        generalize K i = kn at *
        go_enter Try.func17, Try.ntmps17
        go_wp2_with fail
        refine (down_calls HI.out).mono ?_
        rintro e w1 ⟨rfl, rfl⟩
        go_wp2_with fail
        go_ret2
        exact ⟨by rw [HR.out]; rfl, HI.out, HB.out⟩
end
end Go.Proofs.Ytahfcnbdladfbaa

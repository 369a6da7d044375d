/- Texts of this claim, one behind the other: what their heads say. Conditions: those that each theorem names. -/
import Derived.OpenShut
import Derived.SizedLaws
import Derived.Deep.RegionHeld3
import Derived.Test.YtccdmedhkbabpaaWWords
import Derived.Deep.Slices
import Derived.ChangeArms
import Derived.Test.YtccdmedhkbabpaaProg
import Derived.KernelRfl
import Derived.WideShapes
import Derived.Test.YtccdmedhkbabpaaR3
set_option linter.unusedVariables false
set_option linter.unusedSimpArgs false
/- The log's awake; what the laws share. Conditions: those that each theorem names. -/
namespace Go.Proofs.Ytccdmedhkbabpaa
open Go.RowKit Go.Proofs.YtccdmedhkbabpaaW.PrintWords PRd PFr

section
variable {Y : Nat → Obj → Prop} {w0 w : World} {g gl ar : Nat} {room left gen : Int} {A : Nat → Ar} {rec : List ByteArray}
/-- A log that is up: the drum, the log's block, and what it holds. -/
structure LogAt (Y : Nat → Obj → Prop) (w0 W : World) (g gl : Nat) (room left : Int) (A : Nat → Ar) (ar : Nat) (gen : Int) (rec : List ByteArray) : Prop where
  d : ∃ K V, IsD (LX Y gl g (ar : Int) gen) w0 W g room left false A K V
  b : Below w0.heap.size w0 W
  f : Fit room left A
  u : Up A ar gen rec
theorem LogAt.below {W : World} (h : LogAt Y w0 w g gl room left A ar gen rec) (hb : Below w.heap.size w W) : LogAt Y w0 W g gl room left A ar gen rec := by
  obtain ⟨⟨K, V, hI⟩, hB, hF, hU⟩ := h
  exact ⟨⟨K, V, hI.below hb⟩, below_then hB hB.size hb, hF, hU⟩
theorem Fit.none_ (hr : 0 ≤ room) : Fit room (-1) (fun _ => none) := ⟨(fun i _ b s e => by cases e), hr, by decide⟩
theorem Fit.sz (h : Fit room left A) (i : Nat) (hi : i < 4) : ((sz (A i) : Nat) : Int) ≤ room := by
  have := sz_le A i hi
  have := h.used
  omega
theorem Fit.bz (h : Fit room left A) (hrm : room ≤ 1048576) : ∀ i, i < 4 → ∀ b s, A i = some (b, s) → b.size ≤ 9223372036854775807 := by
  intro i hi b s e
  have h1 := h.sz i hi
  rw [e] at h1
  have h2 : ((b.size : Nat) : Int) ≤ room := h1
  omega
/-- A new drum. -/
theorem drum_new (room : Int) (h0 : 0 ≤ room) (h1 : room ≤ 1048576) (w0 w : World) (hB : Below w0.heap.size w0 w) : Calls Try.prog 9 #[.int .i64 room] w fun e w' => ∃ g, e = .returned (.tuple #[.pointer (some ⟨g, 0, none⟩), .int .i64 0]) ∧ (∃ K V, IsD NoX w0 w' g room (-1) false (fun _ => none) K V) ∧ Below w0.heap.size w0 w' := by
  refine (new_calls room ⟨by omega, by omega⟩ w0 w hB).mono ?_
  rintro e w' ⟨hb, h⟩
  rw [if_neg (by omega)] at h
  obtain ⟨g, rfl, K, V, hI⟩ := h
  exact ⟨g, rfl, ⟨K, V, hI⟩, hb⟩
/-- A new drum's log. -/
theorem log_new {K : Nat → Nat} {V : Nat → Value} (hI : IsD Y w0 w g room (-1) false (fun _ => none) K V) (hB : Below w0.heap.size w0 w) (h0 : 100 ≤ room) (h1 : room ≤ 1048576) :
    Calls Try.prog 10 #[.pointer (some ⟨g, 0, none⟩)] w fun e w' => ∃ gl v A, e = .returned (.tuple #[.pointer (some ⟨gl, 0, none⟩), v, .int .i64 0]) ∧ w.heap.size ≤ gl ∧ LogAt Y w0 w' g gl room (-1) A 0 1 [] ∧ sz (A 0) = (layB 1 []).size ∧ Kd.R Kd.string 9 w' w0.heap.size (fun _ => True) v [] := by
  have hF : Fit room (-1) (fun _ => (none : Ar)) := Fit.none_ (by omega)
  refine (lopen_calls hI hB hF h1).mono ?_
  obtain ⟨B', ho, hu, hz⟩ := open_new (room := room) h0
  have hf := openR_fit (down := false) hF
  rw [ho] at hf ⊢
  rintro e w' (⟨h, _⟩ | ⟨_, gl, v, rfl, hgl, ⟨hd, hb⟩, hR⟩)
  · exact absurd rfl h
  · exact ⟨gl, v, B', rfl, hgl, ⟨hd, hb, hf, hu⟩, hz, hR⟩
/-- A fall. -/
theorem log_fall (xs : List Int) (R0 : Option Addr) (c0 : Nat) {left : Int} {down : Bool} {K : Nat → Nat} {V : Nat → Value} (hxl : xs.length ≤ c0) (hI : IsD Y w0 w g room left down A K V) (hB : Below w0.heap.size w0 w) (hF : Fit room left A) (h1 : room ≤ 1048576) (hr : ReadsInt w .i64 R0 xs.length xs) (hkf : ∀ ad, R0 = some ad → 0 < xs.length → ad.block < w0.heap.size) :
    Calls Try.prog 14 #[.pointer (some ⟨g, 0, none⟩), .slice R0 xs.length c0] w fun e w' => e = .returned (.tuple #[]) ∧ (∃ V', IsD Y w0 w' g room (-1) false (fallTo xs A 4) K V') ∧ Below w0.heap.size w0 w' :=
  fall_calls xs R0 c0 hxl hI hB hr (fun ad e h0 i hi hs => by
    obtain ⟨⟨b, s⟩, e2⟩ := Option.isSome_iff_exists.1 hs
    have h2 := (hI.ha i hi b s e2).2.1
    have h3 := hkf ad e h0
    omega) hF.sb (hF.bz h1)
theorem reads_none (w : World) : ReadsInt w .i64 none ([] : List Int).length [] := ⟨rfl, by decide, fun h => absurd h (by decide)⟩
/-- What was up is opened behind a fall. -/
theorem log_open {xs : List Int} {K : Nat → Nat} {V : Nat → Value} {cand : List (List ByteArray)} {G : Int} (hI : IsD Y w0 w g room (-1) false (fallTo xs A 4) K V) (hB : Below w0.heap.size w0 w) (hF : Fit room left A) (hD : Dn room A G cand) (h1 : room ≤ 1048576) :
    Calls Try.prog 10 #[.pointer (some ⟨g, 0, none⟩)] w fun e w' => ∃ (gl : Nat) (v : Value) (A' : Nat → Ar) (ar' : Nat) (gen' : Int) (rec' : List ByteArray), e = .returned (.tuple #[.pointer (some ⟨gl, 0, none⟩), v, .int .i64 0]) ∧ w.heap.size ≤ gl ∧ rec' ∈ cand ∧ gen' ≤ G ∧ openR room (-1) false (fallTo xs A 4) = ((0, -1, false, A'), (ar' : Int), gen', rec') ∧ LogAt Y w0 w' g gl room (-1) A' ar' gen' rec' ∧ Kd.R Kd.string 9 w' w0.heap.size (fun _ => True) v rec' := by
  refine (lopen_calls hI hB (hF.fall xs) h1).mono ?_
  obtain ⟨ar', g', rec', B', hc, hg, ho, hu⟩ := hD xs
  have hf := openR_fit (down := false) (hF.fall xs)
  rw [ho] at hf ⊢
  rintro e w' (⟨h, _⟩ | ⟨_, gl, v, rfl, hgl, ⟨hd, hb⟩, hR⟩)
  · exact absurd rfl h
  · exact ⟨gl, v, B', ar', g', rec', rfl, hgl, hc, hg, rfl, ⟨hd, hb, hf, hu⟩, hR⟩
/-- A fall of a log that is up, and it is opened: just the same. -/
theorem log_reopen {xs : List Int} {K : Nat → Nat} {V : Nat → Value} (hI : IsD Y w0 w g room (-1) false (fallTo xs A 4) K V) (hB : Below w0.heap.size w0 w) (hF : Fit room left A) (hU : Up A ar gen rec) (hg : gen ≤ 18446744073709551615) (h1 : room ≤ 1048576) :
    Calls Try.prog 10 #[.pointer (some ⟨g, 0, none⟩)] w fun e w' => ∃ gl v A', e = .returned (.tuple #[.pointer (some ⟨gl, 0, none⟩), v, .int .i64 0]) ∧ w.heap.size ≤ gl ∧ LogAt Y w0 w' g gl room (-1) A' ar gen rec ∧ A' ar = A ar ∧ Kd.R Kd.string 9 w' w0.heap.size (fun _ => True) v rec := by
  refine (lopen_calls hI hB (hF.fall xs) h1).mono ?_
  obtain ⟨B', ho, hu, he⟩ := hU.fall (room := room) hg xs
  have hf := openR_fit (down := false) (hF.fall xs)
  rw [ho] at hf ⊢
  rintro e w' (⟨h, _⟩ | ⟨_, gl, v, rfl, hgl, ⟨hd, hb⟩, hR⟩)
  · exact absurd rfl h
  · exact ⟨gl, v, B', rfl, hgl, ⟨hd, hb, hf, hu⟩, he, hR⟩
theorem recF_size (s : ByteArray) : (recF s).size ≤ s.size + 15 := by
  have := wrp_size ((⟨#[82]⟩ : ByteArray) ++ s)
  rw [tag_size] at this
  show (wrp ((⟨#[82]⟩ : ByteArray) ++ s)).1.size ≤ _
  omega
/-- A record that there is room for. -/
theorem log_append (s : ByteArray) (h : LogAt Y w0 w g gl room (-1) A ar gen rec) (hg : gen ≤ 18446744073709551615) (hs : s.size ≤ 16000) (h1 : room ≤ 1048576) (hrm : ((sz (A ar) + (recF s).size : Nat) : Int) ≤ room) :
    Calls Try.prog 11 #[.pointer (some ⟨gl, 0, none⟩), .string s] w fun e w' => ∃ A', e = .returned (.int .i64 0) ∧ LogAt Y w0 w' g gl room (-1) A' ar gen (rec ++ [s]) ∧ sz (A' ar) = sz (A ar) + (recF s).size := by
  obtain ⟨⟨K, V, hI⟩, hB, hF, hU⟩ := h
  have hz := recF_size s
  have hfit := hF.used
  refine (lappend_calls s hI hB hF.left ⟨by have := hU.h4; omega, by have := hU.h4; omega⟩ (by omega) (fun _ => by omega) (by omega)).mono ?_
  rcases append_law (room := room) hU hg (show (-1 : Int) ≤ -1 by decide) s with ⟨h, _⟩ | ⟨_, l', A', h2, h3, h4, h5⟩ | ⟨_, h, _⟩ | ⟨h, _⟩
  · omega
  · have hf : FitR room (appR room (-1) false A (ar : Int) s) := by
      unfold appR
      split
      · exact hF
      · exact wsR_fit hF _ _
    rw [h2 rfl] at h3
    rw [h3] at hf ⊢
    rintro e w' ⟨rfl, hd, hb⟩
    exact ⟨A', rfl, ⟨hd, hb, hf, h4⟩, h5⟩
  · omega
  · exact absurd rfl h
set_option maxRecDepth 100000 in
set_option maxHeartbeats 16000000 in
theorem awake_calls (w : World) : Calls Try.prog 7 #[] w fun e w' => e = .returned (.bool true) ∧ Below w.heap.size w w' := by
  go_enter Try.func7, Try.ntmps7
  go_wp2_with fail
  refine (drum_new 1000 (by decide) (by decide) w w (Below.refl _ _)).mono ?_
  rintro e w1 ⟨g, rfl, ⟨K1, V1, hI1⟩, hB1⟩
  have HI1 := Lib.hid hI1
  have HB1 := Lib.hid hB1
  clear hI1 hB1
  go_wp2_with fail
  refine (log_new HI1.out HB1.out (by decide) (by decide)).mono ?_
  rintro e w2 ⟨gl, v2, A2, rfl, hgl, hL, hz, hR⟩
  have HL2 := Lib.hid hL
  have HZ2 := Lib.hid hz
  obtain ⟨R2, c2, rfl⟩ := Kd.R_slice hR
  clear hL hz hR hgl HI1 HB1
  go_wp2_with fail
  refine (log_append ⟨#[97]⟩ HL2.out (by decide) (by decide) (by decide) (by have := HZ2.out; have := layB_nil 1 (by decide); have := recF_size ⟨#[97]⟩; have e : (⟨#[97]⟩ : ByteArray).size = 1 := rfl; omega)).mono ?_
  rintro e w3 ⟨A3, rfl, hL, hz⟩
  have HL3 := Lib.hid hL
  have HZ3 := Lib.hid hz
  clear hL hz HL2
  go_wp2_with fail
  refine (log_append ⟨#[98]⟩ HL3.out (by decide) (by decide) (by decide) (by have := HZ3.out; have := HZ2.out; have := layB_nil 1 (by decide); have := recF_size ⟨#[97]⟩; have := recF_size ⟨#[98]⟩; have e : (⟨#[97]⟩ : ByteArray).size = 1 := rfl; have e : (⟨#[98]⟩ : ByteArray).size = 1 := rfl; omega)).mono ?_
  rintro e w4 ⟨A4, rfl, hL, hz⟩
  have HL4 := Lib.hid hL
  clear hL hz HL3 HZ3 HZ2
  go_wp2_with fail
  obtain ⟨⟨K4, V4, hI4⟩, hB4, hF4, hU4⟩ := HL4.out
  have HF4 := Lib.hid hF4
  have HU4 : Hid (Up A4 0 1 [⟨#[97]⟩, ⟨#[98]⟩]) := Lib.hid hU4
  refine (log_fall [] none 0 (Nat.le_refl _) hI4 hB4 hF4 (by decide) (reads_none _) (fun ad h => by cases h)).mono ?_
  rintro e w5 ⟨rfl, ⟨V5, hI5⟩, hB5⟩
  have HI5 := Lib.hid hI5
  have HB5 := Lib.hid hB5
  clear hI4 hB4 hF4 hU4 hI5 hB5 HL4
  go_wp2_with fail
  refine (log_reopen HI5.out HB5.out HF4.out HU4.out (by decide) (by decide)).mono ?_
  rintro e w6 ⟨gl2, v6, A6, rfl, hgl2, hL6, _, hR6⟩
  obtain ⟨R6, c6, rfl⟩ := Kd.R_slice hR6
  obtain ⟨_, _, hC⟩ := Kd.R_reads' hR6
  obtain ⟨ad, rfl, k0⟩ := Kd.at_string hC 0 (by decide) (by decide)
  obtain ⟨ad2, e2, k1⟩ := Kd.at_string hC 1 (by decide) (by decide)
  obtain rfl : ad = ad2 := by injection e2
  have k0' : w6.cell? ad = some (.string ⟨#[97]⟩) := k0
  have k1' : w6.cell? ⟨ad.block, ad.off + 1, none⟩ = some (.string ⟨#[98]⟩) := k1
  have HL6 := Lib.hid hL6
  clear hL6 hR6 hC k0 k1 hgl2 HI5 HB5 HF4 HU4 e2
  go_wp2_with fail
  obtain ⟨⟨K6, V6, hI6⟩, hB6, _, _⟩ := HL6.out
  refine (lgen_calls hI6).mono ?_
  rintro e w7 ⟨rfl, rfl⟩
  have HB7 := Lib.hid hB6
  clear hI6 hB6 HL6
  go_wp2_with fail
  go_ret
  exact ⟨rfl, HB7.out⟩
end
end Go.Proofs.Ytccdmedhkbabpaa
/- The log's Size. Conditions: those that each theorem names. -/
namespace Go.Proofs.Ytccdmedhkbabpaa
open Go.RowKit Go.Proofs.YtccdmedhkbabpaaW.PrintWords
variable {Y : Nat → Obj → Prop} {w0 w : World} {g gl : Nat} {room left area gen : Int} {down : Bool} {A : Nat → Ar} {K : Nat → Nat} {V : Nat → Value}
theorem lsize_nil (w : World) : Calls Try.prog 17 #[.pointer none] w fun e w' => e = .returned (.int .i64 0) ∧ w' = w := by
  go_enter Try.func17, Try.ntmps17
  go_wp2_with fail
  go_ret
  exact ⟨rfl, rfl⟩
set_option maxRecDepth 100000 in
set_option maxHeartbeats 1000000 in
theorem lsize_calls (hI : IsD (LX Y gl g area gen) w0 w g room left down A K V) (hB : Below w0.heap.size w0 w) (ha64 : -9223372036854775808 ≤ area ∧ area ≤ 9223372036854775807) :
    Calls Try.prog 17 #[.pointer (some ⟨gl, 0, none⟩)] w fun e w' => e = .returned (.int .i64 ((readR down A area).1.size : Int)) ∧ IsD (LX Y gl g area gen) w0 w' g room left down A K V ∧ Below w0.heap.size w0 w' := by
  have c0 := LX.c0 hI
  have c1 := LX.c1 hI
  have HS : Hid (∀ W : World, IsD (LX Y gl g area gen) w0 W g room left down A K V ∧ Below w0.heap.size w0 W → _) := Lib.hid (fun W h => read_calls area h.1 h.2 ha64)
  have HI := Lib.hid hI
  have HB := Lib.hid hB
  clear hI hB
  generalize (readR down A area).1 = t at *
  generalize (readR down A area).2 = q at *
  go_enter Try.func17, Try.ntmps17
  go_wp2_with fail
  go_region_held3 (fun w' => (IsD (LX Y gl g area gen) w0 w' g room left down A K V ∧ Below w0.heap.size w0 w') ∧ w'.cell? ⟨gl, 0, none⟩ = some (.pointer (some ⟨g, 0, none⟩)) ∧ w'.cell? ⟨gl, 1, none⟩ = some (.int .i64 area)) (first | assumption | exact ⟨⟨HI.out, HB.out⟩, c0, c1⟩ | exact ⟨⟨HI.out.drew, below_drew1 HB.out⟩, c0, c1⟩ | go_keep) (first | (go_at_call 26; refine (HS.out _ (‹(IsD (LX Y gl g area gen) w0 _ g room left down A K V ∧ Below w0.heap.size w0 _) ∧ _ ∧ _›).1).mono ?_; rintro e w3 ⟨rfl, hI3, hB3⟩; have hH : (IsD (LX Y gl g area gen) w0 w3 g room left down A K V ∧ Below w0.heap.size w0 w3) ∧ w3.cell? ⟨gl, 0, none⟩ = some (.pointer (some ⟨g, 0, none⟩)) ∧ w3.cell? ⟨gl, 1, none⟩ = some (.int .i64 area) := ⟨⟨hI3, hB3⟩, LX.c0 hI3, LX.c1 hI3⟩; clear hI3 hB3))
  go_wp2_with fail
  go_ret
  first | exact ⟨rfl, by assumption⟩ | exact ⟨rfl, (‹(IsD (LX Y gl g area gen) w0 _ g room left down A K V ∧ Below w0.heap.size w0 _) ∧ _ ∧ _›).1⟩
end Go.Proofs.Ytccdmedhkbabpaa
/- What the log's laws share: Renew, Append with or without room, Size, texts kept beside the drum. Conditions: those that each theorem names. -/
namespace Go.Proofs.Ytccdmedhkbabpaa
open Go.RowKit Go.Proofs.YtccdmedhkbabpaaW.PrintWords PRd PFr

section
variable {Y : Nat → Obj → Prop} {w0 w : World} {g gl ar : Nat} {room left gen : Int} {A : Nat → Ar} {rec : List ByteArray}
theorem LogAt.toY {Y' : Nat → Obj → Prop} (h : LogAt Y w0 w g gl room left A ar gen rec) (hy : ∀ k o, Y' k o → w.heap[k]? = some o ∧ XOk o) : LogAt Y' w0 w g gl room left A ar gen rec := by
  obtain ⟨⟨K, V, hI⟩, hB, hF, hU⟩ := h
  exact ⟨⟨K, V, hI.more fun k o hk => hk.elim (fun h => hI.hx k o (.inl h)) (hy k o)⟩, hB, hF, hU⟩
theorem LogAt.y (h : LogAt Y w0 w g gl room left A ar gen rec) {k : Nat} {o : Obj} (hk : Y k o) : w.heap[k]? = some o ∧ XOk o := by
  obtain ⟨⟨K, V, hI⟩, _⟩ := h
  exact hI.hx k o (.inr hk)
/-- A row of texts is told beside. -/
theorem LogAt.andRow {base : Nat} {v : Value} {l : List ByteArray} (h : LogAt Y w0 w g gl room left A ar gen rec) (hR : Kd.R Kd.string 9 w base (fun _ => True) v l) : LogAt (fun k o => Y k o ∨ RX w v k o) w0 w g gl room left A ar gen rec :=
  h.toY fun k o hk => hk.elim (fun hk => h.y hk) fun hk => ⟨hk.2, RX_ok hR hk⟩
theorem LogAt.outRow {W1 : World} {base : Nat} {v : Value} {l : List ByteArray} (h : LogAt (fun k o => Y k o ∨ RX W1 v k o) w0 w g gl room left A ar gen rec) (hR : Kd.R Kd.string 9 W1 base (fun _ => True) v l) :
    LogAt Y w0 w g gl room left A ar gen rec ∧ Kd.R Kd.string 9 w base (fun _ => True) v l :=
  ⟨h.toY fun k o hk => h.y (.inl hk), RX_R hR fun k o hk => (h.y (.inr hk)).1⟩
/-- Only a row of another type has been written. -/
theorem IsD.keepRow {X : Nat → Obj → Prop} {down : Bool} {K : Nat → Nat} {V : Nat → Value} {W : World} {base n size : Nat} {e : TypeId} {v : Value} {xs : List Value} (h : IsD X w0 w g room left down A K V) (ho : w.ownsRow base e size v n xs) (e1 : e ≠ 67) (e2 : e ≠ 84) (e3 : e ≠ 5)
    (hm : ∀ k, k < w.heap.size → some k ≠ v.ownBlock → W.heap[k]? = w.heap[k]?) (hX : ∀ k o, X k o → some k ≠ v.ownBlock) : IsD X w0 W g room left down A K V := by
  refine ⟨(hm g (lt_of_at h.hb) (fun he => row_ne' ho h.hb (Ne.symm e1) g he.symm rfl)).trans h.hb, h.hg, fun i hi b s he => ?_, h.hs, fun k o hk => ⟨(hm k (lt_of_at (h.hx k o hk).1) (hX k o hk)).trans (h.hx k o hk).1, (h.hx k o hk).2⟩⟩
  obtain ⟨h1, h2, h3⟩ := h.ha i hi b s he
  refine ⟨(hm _ (lt_of_at h1) (fun he => row_ne' ho h1 (Ne.symm e2) _ he.symm rfl)).trans h1, h2, own_move h3 fun k hk => hm k (own_lt h3 k hk) (fun he => ?_)⟩
  rcases own_type_ne h3 ho (Ne.symm e3) with h4 | h4
  · rw [h4] at hk; cases hk
  · exact h4 (hk.trans he)
theorem LogAt.keepRow {W : World} {base : Nat} {v : Value} {l : List ByteArray} (h : LogAt Y w0 w g gl room left A ar gen rec) (hR : Kd.R Kd.string 9 w base (fun _ => True) v l) (hg : w.grownBy W v.ownBlock) (hB : Below w0.heap.size w0 W) (hX : ∀ k o, Y k o → some k ≠ v.ownBlock) : LogAt Y w0 W g gl room left A ar gen rec := by
  obtain ⟨⟨K, V, hI⟩, hb, hF, hU⟩ := h
  obtain ⟨a1, cs, ho, a3⟩ := hR
  refine ⟨⟨K, V, hI.keepRow ho (by decide) (by decide) (by decide) (fun k hk hne => hg.block k hk hne) fun k o hk => ?_⟩, hB, hF, hU⟩
  rcases hk with ⟨rfl, rfl⟩ | hk
  · exact fun he => row_ne' ho (LX.at hI) (by decide) k he.symm rfl
  · exact hX k o hk
/-- Append, with or without room. -/
theorem log_append2 (s : ByteArray) (h : LogAt Y w0 w g gl room (-1) A ar gen rec) (hg : gen ≤ 18446744073709551615) (hs : s.size ≤ 16000) (h1 : room ≤ 1048576) :
    Calls Try.prog 11 #[.pointer (some ⟨gl, 0, none⟩), .string s] w fun e w' => ∃ c A', e = .returned (.int .i64 c) ∧
      ((c = 0 ∧ LogAt Y w0 w' g gl room (-1) A' ar gen (rec ++ [s]) ∧ sz (A' ar) = sz (A ar) + (recF s).size) ∨ (c = 10 ∧ LogAt Y w0 w' g gl room (-1) A' ar gen rec ∧ A' = A ∧ room < ((sz (A ar) + (recF s).size : Nat) : Int))) := by
  obtain ⟨⟨K, V, hI⟩, hB, hF, hU⟩ := h
  have hz := recF_size s
  have hfit := hF.used
  refine (lappend_calls s hI hB hF.left ⟨by have := hU.h4; omega, by have := hU.h4; omega⟩ (by omega) (fun _ => by omega) (by omega)).mono ?_
  have hf : FitR room (appR room (-1) false A (ar : Int) s) := by
    unfold appR
    split
    · exact hF
    · exact wsR_fit hF _ _
  rcases append_law (room := room) hU hg (show (-1 : Int) ≤ -1 by decide) s with ⟨h, _⟩ | ⟨_, l', A', h2, h3, h4, h5⟩ | ⟨_, h, h3⟩ | ⟨h, _⟩
  · omega
  · rw [h2 rfl] at h3
    rw [h3] at hf ⊢
    rintro e w' ⟨rfl, hd, hb⟩
    exact ⟨0, A', rfl, .inl ⟨rfl, ⟨hd, hb, hf, h4⟩, h5⟩⟩
  · rw [h3] at hf ⊢
    rintro e w' ⟨rfl, hd, hb⟩
    exact ⟨10, A, rfl, .inr ⟨rfl, ⟨hd, hb, hf, hU⟩, rfl, h⟩⟩
  · exact absurd rfl h
theorem layB_size (ge : Int) (hg : ge ≤ 18446744073709551615) (rs : List ByteArray) (m : Nat) (h : ∀ x ∈ rs, x.size ≤ m) : (layB ge rs).size ≤ 40 + rs.length * (m + 15) := by
  have key : ∀ l : List ByteArray, (∀ x ∈ l, x.size ≤ m) → (frs (l.map cP)).size ≤ l.length * (m + 15) := by
    intro l
    induction l with
    | nil => intro _; exact Nat.zero_le _
    | cons x l ih =>
      intro h
      have h1 := ih fun y hy => h y (List.mem_cons_of_mem _ hy)
      have h2 := h x (List.mem_cons_self ..)
      have h3 := wrp_size (cP x)
      have h4 : (cP x).size = 1 + x.size := tag_size 67 x
      show ((wrp (cP x)).1 ++ frs (l.map cP)).size ≤ _
      rw [ByteArray.size_append, List.length_cons, Nat.succ_mul]
      omega
  have e : layB ge rs = (wrp (gP ge)).1 ++ (frs (rs.map cP) ++ (wrp eP).1) := by
    unfold layB layTo
    rw [List.take_length, List.cons_append]
    show (wrp (gP ge)).1 ++ frs (rs.map cP ++ [eP]) = _
    rw [frs_snoc]
  rw [e, ByteArray.size_append, ByteArray.size_append]
  have h1 := key rs h
  have h2 := wrp_size (gP ge)
  have h3 := wrp_size eP
  have h4 := gP_size ge hg
  have h5 : eP.size = 1 := rfl
  omega
/-- Renew, with or without room. -/
theorem log_renew (R : Option Addr) (c : Nat) (rs : List ByteArray) (hS : StrOn Y w0 R rs) (hc : rs.length ≤ c) (hY : ∀ k o, Y k o → k ≠ gl) (hgl : w0.heap.size ≤ gl) (h : LogAt Y w0 w g gl room (-1) A ar gen rec) (hg : gen + 1 ≤ 18446744073709551615) (hfit : allFit rs = true) (hl : rs.length ≤ 1000000) (h1 : room ≤ 1048576) :
    Calls Try.prog 12 #[.pointer (some ⟨gl, 0, none⟩), .slice R rs.length c] w fun e w' => ∃ c A', e = .returned (.int .i64 c) ∧
      ((c = 0 ∧ ∃ ar' : Nat, LogAt Y w0 w' g gl room (-1) A' ar' (gen + 1) rs ∧ sz (A' ar') = (layB (gen + 1) rs).size) ∨ (c = 10 ∧ LogAt Y w0 w' g gl room (-1) A' ar gen rec ∧ A' ar = A ar ∧ room < ((sz (A ar) + (layB (gen + 1) rs).size : Nat) : Int))) := by
  obtain ⟨⟨K, V, hI⟩, hB, hF, hU⟩ := h
  have hsm := allFit_small hfit
  have hg0 := hU.g0
  have h4 := hU.h4
  refine (lrenew_calls R c rs hS hc hY hgl hI hB hF ⟨by omega, by omega⟩ hg0 (by omega) (fun _ => ?_) h1 (by omega) (fun x hx => by have := hsm x hx; omega)).mono ?_
  · have h2 := layB_size (genUp gen) (genUp_range gen).2 rs 16000 hsm
    have h3 : rs.length * (16000 + 15) ≤ 1000000 * (16000 + 15) := Nat.mul_le_mul_right _ hl
    omega
  have hf := renR_fit (down := false) hF (ar : Int) gen rs
  rcases renew_law (room := room) hU hg (show (-1 : Int) ≤ -1 by decide) rs with ⟨h, _⟩ | ⟨_, l', A', ar', h2, h3, h4, h5⟩ | ⟨_, h, l', A', h2, h3, h4, h5⟩ | ⟨h, _⟩ | ⟨h, _⟩
  · rw [hfit] at h; cases h
  · rw [h2 rfl] at h3
    rw [h3] at hf ⊢
    rintro e w' ⟨rfl, hd, hb⟩
    exact ⟨0, A', rfl, .inl ⟨rfl, ar', ⟨hd, hb, hf, h4⟩, h5⟩⟩
  · rw [h2 rfl] at h3
    rw [h3] at hf ⊢
    rintro e w' ⟨rfl, hd, hb⟩
    exact ⟨10, A', rfl, .inr ⟨rfl, ⟨hd, hb, hf, h4⟩, h5, h⟩⟩
  · exact absurd rfl h
  · exact absurd rfl h
/-- The log's size. -/
theorem log_size (h : LogAt Y w0 w g gl room left A ar gen rec) : Calls Try.prog 17 #[.pointer (some ⟨gl, 0, none⟩)] w fun e w' => e = .returned (.int .i64 (sz (A ar) : Int)) ∧ LogAt Y w0 w' g gl room left A ar gen rec := by
  obtain ⟨⟨K, V, hI⟩, hB, hF, hU⟩ := h
  have h4 := hU.h4
  refine (lsize_calls hI hB ⟨by omega, by omega⟩).mono ?_
  have e1 : (readR false A (ar : Int)).1.size = sz (A ar) := by
    obtain ⟨a, b, _, hA⟩ := hU.at_
    unfold readR
    rw [if_neg (by decide), if_neg (by omega), Int.toNat_natCast, hA]; rfl
  rw [e1]
  rintro e w' ⟨rfl, hd, hb⟩
  exact ⟨rfl, ⟨K, V, hd⟩, hb, hF, hU⟩
theorem recF_exact (s : ByteArray) (h : s.size ≤ 200) : (recF s).size = s.size + 7 := by
  rw [recF_eq s (by omega), frm_size]
  have e : (rP s).size = 1 + s.size := tag_size 82 s
  rw [e, encB_len _ (by omega), if_pos (by omega)]
  omega
theorem same_l0' (l : List ByteArray) : ∀ (d i k : Nat), i + d = l.length → l.length ≤ 1000000 → d < k → dovecoteref03_Same.l0 k l l (i : Int) = some true := by
  intro d
  induction d with
  | zero =>
    intro i k hi hl hk
    obtain ⟨k, rfl⟩ : ∃ j, k = j + 1 := ⟨k - 1, by omega⟩
    unfold dovecoteref03_Same.l0
    rw [if_neg (by omega)]
  | succ d ih =>
    intro i k hi hl hk
    obtain ⟨k, rfl⟩ : ∃ j, k = j + 1 := ⟨k - 1, by omega⟩
    unfold dovecoteref03_Same.l0
    rw [if_pos (by omega), if_pos (by omega), if_pos (by omega), if_pos rfl, show wrap64 ((i : Int) + 1) = ((i + 1 : Nat) : Int) by unfold wrap64; omega]
    exact ih (i + 1) k (by omega) hl (by omega)
theorem same_calls (l : List ByteArray) (hl : l.length ≤ 1000000) (A0 A1 : Option Addr) (c0 c1 : Nat) (w : World) (h0 : Kd.string.C w A0 l.length l) (hc0 : l.length ≤ c0) (h1 : Kd.string.C w A1 l.length l) (hc1 : l.length ≤ c1) :
    Calls Try.prog 15 #[.slice A0 l.length c0, .slice A1 l.length c1] w fun e w' => e = .returned (.bool true) ∧ Drawn0 w w' :=
  dovecoteref03_Same.calls (l.length + 1) A0 c0 l A1 c1 l true w h0 hc0 h1 hc1 (by
    unfold dovecoteref03_Same.f
    rw [if_pos rfl]
    exact same_l0' l l.length 0 (l.length + 1) (by omega) hl (by omega))
theorem same_R (l : List ByteArray) (hl : l.length ≤ 1000000) (A0 A1 : Option Addr) (c0 c1 : Nat) (b0 b1 : Nat) (w : World) (h0 : Kd.R Kd.string 9 w b0 (fun _ => True) (.slice A0 l.length c0) l) (h1 : Kd.R Kd.string 9 w b1 (fun _ => True) (.slice A1 l.length c1) l) :
    Calls Try.prog 15 #[.slice A0 l.length c0, .slice A1 l.length c1] w fun e w' => e = .returned (.bool true) ∧ Drawn0 w w' :=
  same_calls l hl A0 A1 c0 c1 w (Kd.R_reads' h0).2.2 (Kd.R_reads' h0).2.1 (Kd.R_reads' h1).2.2 (Kd.R_reads' h1).2.1
end
end Go.Proofs.Ytccdmedhkbabpaa
/- How a slice that came in reads as a list: for every kind of element that reads. Conditions: those that each theorem names. -/
namespace Go.Proofs.Ytccdmedhkbabpaa
open Go.RowKit Go.Deep Go.Proofs.YtccdmedhkbabpaaW.PrintWords

/-- A slice's datum and the list that is read: element by element. -/
def QSlice {H : Type} {α : Type} (Q : α → DataW H → Prop) (l : List α) (d : DataW H) : Prop :=
  (d = .nil ∧ l = []) ∨ ∃ (ds sp : List (DataW H)), d = .slice ds sp ∧ ds.length = l.length ∧ ∀ i (h : i < l.length) (h' : i < ds.length), Q l[i] ds[i]

theorem mapM_range {α : Type} (f : Nat → Option α) : ∀ (n : Nat) (cs : List α), (List.range n).mapM f = some cs → cs.length = n ∧ ∀ i, i < n → f i = cs[i]? := by
  intro n
  induction n with
  | zero => intro cs h; simp at h; subst h; simp
  | succ n ih =>
    intro cs h
    rw [List.range_succ, List.mapM_append] at h
    cases h1 : (List.range n).mapM f with
    | none => simp [h1] at h
    | some c1 =>
      cases h2 : f n with
      | none => simp [h1, h2] at h
      | some x =>
        simp [h1, h2] at h
        subst h
        obtain ⟨hl, hi⟩ := ih c1 h1
        refine ⟨by simp [hl], fun i hin => ?_⟩
        by_cases hc : i < n
        · rw [hi i hc, List.getElem?_append_left (by omega)]
        · obtain rfl : i = n := by omega
          rw [h2, List.getElem?_append_right (by omega), hl]; simp

theorem choose_list {α : Type} : ∀ (n : Nat) (p : Nat → α → Prop), (∀ i, i < n → ∃ y, p i y) → ∃ l : List α, l.length = n ∧ ∀ i (h : i < l.length), p i l[i] := by
  intro n
  induction n with
  | zero => intro p _; exact ⟨[], rfl, fun i h => absurd h (by simp)⟩
  | succ n ih =>
    intro p h
    obtain ⟨l, hl, hp⟩ := ih p (fun i hi => h i (by omega))
    obtain ⟨y, hy⟩ := h n (by omega)
    refine ⟨l ++ [y], by simp [hl], fun i hi => ?_⟩
    by_cases hc : i < l.length
    · rw [List.getElem_append_left hc]; exact hp i hc
    · obtain rfl : i = n := by simp at hi; omega
      rw [List.getElem_append_right (by omega)]; simpa using hy
theorem add_add' (a : Addr) (i j : Nat) : (a.add i).add j = a.add (i + j) := by
  unfold Addr.add
  by_cases hi : i = 0 <;> by_cases hj : j = 0 <;> simp [hi, hj, Nat.add_assoc]

section
variable {H : Type} {enc : TypeId × Value → H} {P : Program} {W : World} {base : Nat} {spare : Nat → Bool} {held : Bool}
theorem open_kd {α : Type} {k : Kd α} {Q : α → DataW H → Prop} {t e : TypeId} {fuel : Nat} {cs : List Value} {x : DataW H × List MemPlace}
    (ht : P.underlying t = some (.slice e)) (hsz : P.cellsOf e = k.sz)
    (hO : ∀ n cs x, DataW.trod enc P W base spare held n e cs = some x → ∃ a, k.K W a cs ∧ Q a x.1)
    (h : DataW.trod enc P W base spare held fuel t cs = some x) :
    ∃ (A : Option Addr) (c : Nat) (l : List α), cs = [.slice A l.length c] ∧ l.length ≤ c ∧ k.C W A l.length l ∧ QSlice Q l x.1 := by
  rcases open_slice ht h with ⟨rfl, rfl⟩ | ⟨a, len, cap, m, n, D, Pl, rfl, hb, hl, hm, hmm, rfl, hx⟩
  · exact ⟨none, 0, [], rfl, Nat.le_refl _, Kd.C_nil k W, .inl ⟨rfl, rfl⟩⟩
  · have hlm : len ≤ m := by rw [hmm]; split <;> omega
    have key : ∀ i, i < len → ∃ y : α, ∃ c, c.length = k.sz ∧ k.K W y c ∧ Q y (D i) ∧ ∀ j u, c[j]? = some u → W.cell? (a.add (i * k.sz + j)) = some u := by
      intro i hi
      obtain ⟨c, hc, ht⟩ := hx i (by omega)
      obtain ⟨y, hK, hQ⟩ := hO _ _ _ ht
      rw [hsz] at hc
      unfold World.cells? at hc
      split at hc
      · obtain ⟨hcl, hci⟩ := mapM_range _ _ _ hc
        refine ⟨y, c, hcl, hK, hQ, fun j u hu => ?_⟩
        have hj : j < c.length := by
          rcases Nat.lt_or_ge j c.length with h | h
          · exact h
          · rw [List.getElem?_eq_none h] at hu; cases hu
        rw [← add_add', hci j (by omega), hu]
      · cases hc
    obtain ⟨l, rfl, hf⟩ := choose_list len _ key
    refine ⟨some a, cap, l, rfl, hl, ⟨rfl, by unfold maxLen at hm; omega, fun _ => ⟨a, rfl, fun j p hp => ?_⟩⟩, ?_⟩
    · obtain ⟨hj, rfl⟩ := List.getElem?_eq_some_iff.1 hp
      obtain ⟨c, h1, h2, _, h4⟩ := hf j hj
      exact ⟨c, h1, h2, h4⟩
    · right
      refine ⟨_, _, rfl, by simp, fun i h h' => ?_⟩
      obtain ⟨c, _, _, h3, _⟩ := hf i h
      simpa using h3
end
end Go.Proofs.Ytccdmedhkbabpaa
/- Lists of texts and acts, opened. Conditions: those that each theorem names. -/
namespace Go.Proofs.Ytccdmedhkbabpaa
open Go.RowKit Go.Deep Go.Proofs.YtccdmedhkbabpaaW.PrintWords

/-- How far the texts reach. -/
theorem weights_at {H : Type} {P : Program} {t e : TypeId} {ds sp : List (DataW H)} (hu : P.underlying t = some (.slice e)) (z : ∀ n ∈ DataW.weights P t (.slice ds sp), n ≤ reachBytes) : ∀ d ∈ ds, ∀ n ∈ DataW.weights P e d, n ≤ reachBytes := by
  have hall : ∀ (l : List (DataW H)) (d : DataW H), d ∈ l → ∀ n ∈ DataW.weights P e d, n ∈ DataW.weightsAll P e l := by
    intro l
    induction l with
    | nil => intro d hd; cases hd
    | cons a l ih =>
      intro d hd n hn
      simp only [DataW.weightsAll, List.mem_append]
      rcases List.mem_cons.1 hd with rfl | hd
      · exact .inl hn
      · exact .inr (ih d hd n hn)
  intro d hd n hn
  refine z n ?_
  unfold DataW.weights
  rw [hu]
  simp only [List.mem_cons, List.mem_append]
  exact .inr (.inl (hall ds d hd n hn))
def QStr {H : Type} (a : ByteArray) (d : DataW H) : Prop := d = .lit (.string a.data.toList)
theorem open_str {H : Type} {enc : TypeId × Value → H} {P : Program} {W : World} {base : Nat} {spare : Nat → Bool} {held : Bool} {e : TypeId} (ht : P.underlying e = some .string) :
    ∀ n cs x, DataW.trod enc P W base spare held n e cs = some x → ∃ a : ByteArray, Kd.string.K W a cs ∧ QStr a x.1 := by
  intro n cs x h
  obtain ⟨a, q, z, w⟩ := DataW.trod_string ht h
  subst z
  exact ⟨a, by first | exact q | (subst q; rfl), rfl⟩
theorem str_weight {H : Type} {P : Program} {e : TypeId} (s : ByteArray) : s.size ∈ DataW.weights (H := H) P e (.lit (.string s.data.toList)) := by
  rw [DataW.weights]
  have h : s.data.toList.length = s.size := by obtain ⟨⟨l⟩⟩ := s; rfl
  exact List.mem_singleton.2 h.symm
theorem strs_reach {H : Type} {P : Program} {t e : TypeId} (hu : P.underlying t = some (.slice e)) {l : List ByteArray} {d : DataW H} (hq : QSlice QStr l d) (z : ∀ n ∈ DataW.weights P t d, n ≤ reachBytes) : ∀ x ∈ l, x.size ≤ reachBytes := by
  intro x hx
  rcases hq with ⟨_, rfl⟩ | ⟨ds, sp, rfl, hl, hq⟩
  · cases hx
  · obtain ⟨i, hi, rfl⟩ := List.mem_iff_getElem.1 hx
    have h1 := hq i hi (by omega)
    refine weights_at hu z ds[i] (List.getElem_mem _) _ ?_
    rw [h1]
    exact str_weight _
theorem reach_le : reachBytes ≤ 140737488355328 := by decide
set_option maxRecDepth 100000 in
theorem strs_open {H : Type} {enc : TypeId × Value → H} (W : World) (v0 : Value) (d0 : DataW H) (p0 : List MemPlace)
    (h0 : DataW.Trod enc Try.prog W 0 (fun _ => true) true 30 v0 d0 p0) {base : Nat} (u0 : Value.okWide Try.prog W .any base 30 v0) (z0 : ∀ n ∈ DataW.weights Try.prog 30 d0, n ≤ reachBytes) :
    ∃ A c l, v0 = .slice A l.length c ∧ l.length ≤ c ∧ Kd.string.C W A l.length l ∧ (∀ x ∈ l, x.size ≤ 140737488355328) ∧ l.length ≤ 9223372036854775807 := by
  obtain ⟨a, len, cap, rfl⟩ := WideShapes.okWide_slice Try.underlying30 u0
  obtain ⟨fuel, hf⟩ := h0
  obtain ⟨A, c, l, hcs, hlc, hC, hQ⟩ := open_kd (k := Kd.string) (Q := QStr) Try.underlying30 (by kernel_rfl) (open_str Try.underlying9) hf
  simp only [Value.cells, List.cons.injEq, Value.slice.injEq, and_true] at hcs
  obtain ⟨rfl, rfl, rfl⟩ := hcs
  exact ⟨a, cap, l, rfl, hlc, hC, fun x hx => Nat.le_trans (strs_reach Try.underlying30 hQ z0 x hx) reach_le, hC.2.1⟩
end Go.Proofs.Ytccdmedhkbabpaa
/- The log's acts, opened; small. Conditions: those that each theorem names. -/
namespace Go.Proofs.Ytccdmedhkbabpaa
open Go.RowKit Go.Deep Go.Proofs.YtccdmedhkbabpaaW.PrintWords

structure S36 where
  f0 : Int
  f1 : Int
  f2 : ByteArray
  f3 : List ByteArray
  f4 : List Int
def z36 : S36 := ⟨0, 0, ⟨#[]⟩, [], []⟩
def k36 : Kd S36 := Kd.iso (Kd.pair (Kd.int .i64) (Kd.pair (Kd.int .i64) (Kd.pair Kd.string (Kd.pair (Kd.slice 9 Kd.string) (Kd.slice 3 (Kd.int .i64)))))) (fun x : S36 => (x.f0, x.f1, x.f2, x.f3, x.f4))
theorem k36_open {w : World} {x : S36} {cs : List Value} (h : k36.K w x cs) : ∃ A c B d, x.f3.length ≤ c ∧ Kd.string.C w A x.f3.length x.f3 ∧ x.f4.length ≤ d ∧ (Kd.int .i64).C w B x.f4.length x.f4 ∧ cs = [.int .i64 x.f0, .int .i64 x.f1, .string x.f2, .slice A x.f3.length c, .slice B x.f4.length d] := by
  obtain ⟨_, _, rfl, rfl, ⟨_, _, rfl, rfl, ⟨_, _, rfl, rfl, ⟨_, _, rfl, ⟨A, c, rfl, hl, hC⟩, ⟨B, d, rfl, hm, hD⟩⟩⟩⟩⟩ := h
  exact ⟨A, c, B, d, hl, hC, hm, hD, rfl⟩
theorem k36_mk (w : World) (x : S36) (A : Option Addr) (c : Nat) (hl : x.f3.length ≤ c) (hC : Kd.string.C w A x.f3.length x.f3) (B : Option Addr) (d : Nat) (hm : x.f4.length ≤ d) (hD : (Kd.int .i64).C w B x.f4.length x.f4) : k36.K w x [.int .i64 x.f0, .int .i64 x.f1, .string x.f2, .slice A x.f3.length c, .slice B x.f4.length d] :=
  ⟨[.int .i64 x.f0], [.int .i64 x.f1, .string x.f2, .slice A x.f3.length c, .slice B x.f4.length d], rfl, rfl, ⟨[.int .i64 x.f1], [.string x.f2, .slice A x.f3.length c, .slice B x.f4.length d], rfl, rfl, ⟨[.string x.f2], [.slice A x.f3.length c, .slice B x.f4.length d], rfl, rfl, ⟨[.slice A x.f3.length c], [.slice B x.f4.length d], rfl, ⟨A, c, rfl, hl, hC⟩, ⟨B, d, rfl, hm, hD⟩⟩⟩⟩⟩
def rd_T36 (xs : List S36) (i : Int) : S36 := xs.getD i.toNat z36
theorem ints_of_C {w : World} {A : Option Addr} {n : Nat} {xs : List Int} (h : (Kd.int .i64).C w A n xs) : ReadsInt w .i64 A n xs :=
  readsInt_of.2 (Kd.reads_of_C (enc := Value.int .i64) (d := (0 : Int)) (h1 := fun _ => rfl) h)
def QInt {H : Type} (k : IntKind) (n : Int) (d : DataW H) : Prop := d = .lit (.int k n) ∧ (Lit.int k n).wf = true
theorem open_int' {H : Type} {enc : TypeId × Value → H} {P : Program} {W : World} {base : Nat} {spare : Nat → Bool} {held : Bool} {k : IntKind} {e : TypeId} (ht : P.underlying e = some (.int k)) :
    ∀ n cs x, DataW.trod enc P W base spare held n e cs = some x → ∃ a, (Kd.int k).K W a cs ∧ QInt k a x.1 := by
  intro n cs x h
  obtain ⟨a, q, z, wf⟩ := DataW.trod_int ht h
  subst z
  exact ⟨a, q, rfl, wf⟩
def Q36 {H : Type} (a : S36) (d : DataW H) : Prop := ∃ e3 e4 : DataW H, d = .agg [.lit (.int .i64 a.f0), .lit (.int .i64 a.f1), .lit (.string a.f2.data.toList), e3, e4] ∧ (Lit.int .i64 a.f0).wf = true ∧ (Lit.int .i64 a.f1).wf = true ∧ a.f2.size ≤ maxLen ∧ QSlice QStr a.f3 e3 ∧ QSlice (QInt .i64) a.f4 e4
set_option maxRecDepth 100000 in
theorem open_S36 {H : Type} {enc : TypeId × Value → H} {W : World} {base : Nat} {spare : Nat → Bool} {held : Bool} (n : Nat) (cs : List Value) (x : DataW H × List MemPlace) (h : DataW.trod enc Try.prog W base spare held n 36 cs = some x) : ∃ a : S36, k36.K W a cs ∧ Q36 a x.1 := by
  have hc0 : Try.prog.cellsOf 36 = 5 := by kernel_rfl
  obtain ⟨xs0, n0, _, hx0, hl0, hn0, hf0⟩ := DataW.trod_struct Try.underlying36 h
  rw [hc0] at hl0
  obtain ⟨c0_0, c0_1, c0_2, c0_3, c0_4, rfl⟩ : ∃ c0_0 c0_1 c0_2 c0_3 c0_4, cs = [c0_0, c0_1, c0_2, c0_3, c0_4] := by
    match cs, hl0 with
    | [c0_0, c0_1, c0_2, c0_3, c0_4], _ => exact ⟨_, _, _, _, _, rfl⟩
  obtain ⟨x0_0, x0_1, x0_2, x0_3, x0_4, rfl⟩ : ∃ x0_0 x0_1 x0_2 x0_3 x0_4, xs0 = [x0_0, x0_1, x0_2, x0_3, x0_4] := by
    match xs0, hn0 with
    | [x0_0, x0_1, x0_2, x0_3, x0_4], _ => exact ⟨_, _, _, _, _, rfl⟩
  have h0_0 : DataW.trod enc Try.prog W base spare held n0 3 (List.take (Try.prog.cellsOf 3) (List.drop 0 [c0_0, c0_1, c0_2, c0_3, c0_4])) = [x0_0, x0_1, x0_2, x0_3, x0_4][0]? := hf0 0 _ rfl
  rw [show Try.prog.cellsOf 3 = 1 from by kernel_rfl] at h0_0
  replace h0_0 : DataW.trod enc Try.prog W base spare held n0 3 [c0_0] = some x0_0 := h0_0
  have h0_1 : DataW.trod enc Try.prog W base spare held n0 3 (List.take (Try.prog.cellsOf 3) (List.drop 1 [c0_0, c0_1, c0_2, c0_3, c0_4])) = [x0_0, x0_1, x0_2, x0_3, x0_4][1]? := hf0 1 _ rfl
  rw [show Try.prog.cellsOf 3 = 1 from by kernel_rfl] at h0_1
  replace h0_1 : DataW.trod enc Try.prog W base spare held n0 3 [c0_1] = some x0_1 := h0_1
  have h0_2 : DataW.trod enc Try.prog W base spare held n0 9 (List.take (Try.prog.cellsOf 9) (List.drop 2 [c0_0, c0_1, c0_2, c0_3, c0_4])) = [x0_0, x0_1, x0_2, x0_3, x0_4][2]? := hf0 2 _ rfl
  rw [show Try.prog.cellsOf 9 = 1 from by kernel_rfl] at h0_2
  replace h0_2 : DataW.trod enc Try.prog W base spare held n0 9 [c0_2] = some x0_2 := h0_2
  have h0_3 : DataW.trod enc Try.prog W base spare held n0 30 (List.take (Try.prog.cellsOf 30) (List.drop 3 [c0_0, c0_1, c0_2, c0_3, c0_4])) = [x0_0, x0_1, x0_2, x0_3, x0_4][3]? := hf0 3 _ rfl
  rw [show Try.prog.cellsOf 30 = 1 from by kernel_rfl] at h0_3
  replace h0_3 : DataW.trod enc Try.prog W base spare held n0 30 [c0_3] = some x0_3 := h0_3
  have h0_4 : DataW.trod enc Try.prog W base spare held n0 34 (List.take (Try.prog.cellsOf 34) (List.drop 4 [c0_0, c0_1, c0_2, c0_3, c0_4])) = [x0_0, x0_1, x0_2, x0_3, x0_4][4]? := hf0 4 _ rfl
  rw [show Try.prog.cellsOf 34 = 1 from by kernel_rfl] at h0_4
  replace h0_4 : DataW.trod enc Try.prog W base spare held n0 34 [c0_4] = some x0_4 := h0_4
  obtain ⟨a0, q0, z0, w0⟩ := DataW.trod_int Try.underlying3 h0_0
  obtain rfl := List.head_eq_of_cons_eq q0
  subst z0
  obtain ⟨a1, q1, z1, w1⟩ := DataW.trod_int Try.underlying3 h0_1
  obtain rfl := List.head_eq_of_cons_eq q1
  subst z1
  obtain ⟨a2, q2, z2, w2⟩ := DataW.trod_string Try.underlying9 h0_2
  obtain rfl := List.head_eq_of_cons_eq q2
  subst z2
  obtain ⟨A3, g3, a3, q3, w3, r3, z3⟩ := open_kd (k := Kd.string) (Q := QStr) Try.underlying30 (by kernel_rfl) (open_str Try.underlying9) h0_3
  obtain rfl := List.head_eq_of_cons_eq q3
  obtain ⟨A4, g4, a4, q4, w4, r4, z4⟩ := open_kd (k := (Kd.int .i64)) (Q := (QInt .i64)) Try.underlying34 (by kernel_rfl) (open_int' Try.underlying3) h0_4
  obtain rfl := List.head_eq_of_cons_eq q4
  refine ⟨⟨a0, a1, a2, a3, a4⟩, k36_mk W ⟨a0, a1, a2, a3, a4⟩ A3 g3 w3 r3 A4 g4 w4 r4, ?_⟩
  subst hx0
  exact ⟨_, _, rfl, w0, w1, w2, z3, z4⟩

def ActOk (x : S36) : Prop := (-9223372036854775808 ≤ x.f0 ∧ x.f0 ≤ 9223372036854775807) ∧ (-9223372036854775808 ≤ x.f1 ∧ x.f1 ≤ 9223372036854775807) ∧ x.f2.size ≤ 140737488355328 ∧ ∀ y ∈ x.f3, y.size ≤ 140737488355328
theorem strs_far {w : World} {R : Option Addr} {xs : List ByteArray} (h : Kd.string.C w R xs.length xs) : ∀ ad, R = some ad → 0 < xs.length → ad.block < w.heap.size := by
  intro ad e h0
  obtain ⟨ad', e', hc⟩ := Kd.at_string h 0 (Int.le_refl _) (by omega)
  rw [e] at e'
  injection e' with e'
  subst e'
  exact cell_lt (a := ad) (by simpa [Addr.add] using hc)
/-- An act that came in, read anywhere behind. -/
theorem act_at {w wr : World} {R : Option Addr} {l : List S36} (hC : k36.C w R l.length l) (hB : Below w.heap.size w wr) (hf : ∀ x ∈ l, ActOk x) (i : Nat) (hi : i < l.length) : ∃ ad B c D d, R = some ad ∧ ActOk l[i] ∧ wr.cell? (ad.add (i * 5)) = some (.int .i64 l[i].f0) ∧ wr.cell? ⟨(ad.add (i * 5)).block, (ad.add (i * 5)).off + 1, none⟩ = some (.int .i64 l[i].f1) ∧
    wr.cell? ⟨(ad.add (i * 5)).block, (ad.add (i * 5)).off + 2, none⟩ = some (.string l[i].f2) ∧ wr.cell? ⟨(ad.add (i * 5)).block, (ad.add (i * 5)).off + 3, none⟩ = some (.slice B l[i].f3.length c) ∧
    wr.cell? ⟨(ad.add (i * 5)).block, (ad.add (i * 5)).off + 4, none⟩ = some (.slice D l[i].f4.length d) ∧ l[i].f3.length ≤ c ∧ Kd.string.C w B l[i].f3.length l[i].f3 ∧ l[i].f4.length ≤ d ∧ ReadsInt w .i64 D l[i].f4.length l[i].f4 ∧ ∀ ad, D = some ad → 0 < l[i].f4.length → ad.block < w.heap.size := by
  obtain ⟨ad, cs, e, _, hK, hc0⟩ := Kd.C_get hC z36 (i : Int) (by omega) (by omega)
  have hx : l.getD (i : Int).toNat z36 = l[i] := by
    rw [List.getD_eq_getElem?_getD, Int.toNat_natCast, List.getElem?_eq_getElem hi]; rfl
  rw [hx] at hK
  rw [Int.toNat_natCast] at hc0
  have hc : ∀ j u, cs[j]? = some u → w.cell? (ad.add (i * 5 + j)) = some u := hc0
  obtain ⟨B, c, D, d, hl, hC1, hm, hD, rfl⟩ := k36_open hK
  exact ⟨ad, B, c, D, d, e, hf _ (List.getElem_mem hi), cell_below hB (hc 0 _ rfl), cell_below hB (by rw [← add_field _ _ 1 (by omega)]; exact hc 1 _ rfl), cell_below hB (by rw [← add_field _ _ 2 (by omega)]; exact hc 2 _ rfl), cell_below hB (by rw [← add_field _ _ 3 (by omega)]; exact hc 3 _ rfl), cell_below hB (by rw [← add_field _ _ 4 (by omega)]; exact hc 4 _ rfl), hl, hC1, hm, ints_of_C hD, reads_far (ints_of_C hD)⟩
set_option maxRecDepth 100000 in
theorem act_texts {H : Type} (a : S36) (e3 e4 : DataW H) (hq : QSlice QStr a.f3 e3) (z : ∀ n ∈ DataW.weights Try.prog 36 (.agg [.lit (.int .i64 a.f0), .lit (.int .i64 a.f1), .lit (.string a.f2.data.toList), e3, e4]), n ≤ reachBytes) : a.f2.size ≤ 140737488355328 ∧ ∀ y ∈ a.f3, y.size ≤ 140737488355328 := by
  have e : ∀ ds : List (DataW H), DataW.weights Try.prog 36 (.agg ds) = DataW.weightsEach Try.prog [3, 3, 9, 30, 34] ds := by
    intro ds
    rw [DataW.weights, Try.underlying36]
    rfl
  rw [e] at z
  refine ⟨Nat.le_trans (z _ (DataW.weights_mem_each (j := 2) (t := 9) (d := .lit (.string a.f2.data.toList)) rfl rfl _ (str_weight _))) reach_le, fun y hy => Nat.le_trans (strs_reach Try.underlying30 hq (fun n hn => z n (DataW.weights_mem_each (j := 3) (t := 30) (d := e3) rfl rfl n hn)) y hy) reach_le⟩
set_option maxRecDepth 100000 in
/-- A list of acts that came in, opened. -/
theorem acts_open {H : Type} {enc : TypeId × Value → H} (W : World) (v0 : Value) (d0 : DataW H) (p0 : List MemPlace)
    (h0 : DataW.Trod enc Try.prog W 0 (fun _ => true) true 22 v0 d0 p0) {base : Nat} (u0 : Value.okWide Try.prog W .any base 22 v0) (z0 : ∀ n ∈ DataW.weights Try.prog 22 d0, n ≤ reachBytes) :
    ∃ (A : Option Addr) (c : Nat) (l : List S36), v0 = .slice A l.length c ∧ l.length ≤ c ∧ k36.C W A l.length l ∧ (∀ x ∈ l, ActOk x) ∧ l.length ≤ 9223372036854775807 := by
  obtain ⟨a, len, cap, rfl⟩ := WideShapes.okWide_slice Try.underlying22 u0
  obtain ⟨fuel, hf⟩ := h0
  obtain ⟨A, c, l, hcs, hlc, hC, hQ⟩ := open_kd (k := k36) (Q := fun a d => Q36 a d) Try.underlying22 (by kernel_rfl) open_S36 hf
  simp only [Value.cells, List.cons.injEq, Value.slice.injEq, and_true] at hcs
  obtain ⟨rfl, rfl, rfl⟩ := hcs
  refine ⟨a, cap, l, rfl, hlc, hC, ?_, hC.2.1⟩
  intro x hx
  rcases hQ with ⟨_, rfl⟩ | ⟨ds, sp, rfl, hl, hq⟩
  · cases hx
  · obtain ⟨i, hi, rfl⟩ := List.getElem_of_mem hx
    have hid : i < ds.length := by omega
    obtain ⟨e3, e4, hd, q0, q1, q2, q3, q4⟩ := hq i hi hid
    have hz := weights_at Try.underlying22 z0 ds[i] (List.getElem_mem hid)
    rw [hd] at hz
    obtain ⟨t1, t2⟩ := act_texts _ e3 e4 q3 hz
    exact ⟨Go.bounds_i64 q0, Go.bounds_i64 q1, t1, t2⟩
/-- How many bytes the acts have. -/
def textsLen (l : List ByteArray) : Nat := (l.map ByteArray.size).sum
def actLen (x : S36) : Nat := x.f2.size + textsLen x.f3
def actsLen (l : List S36) : Nat := (l.map actLen).sum
theorem textsLen_take (l : List ByteArray) (k : Nat) (h : k < l.length) : textsLen (l.take (k + 1)) = textsLen (l.take k) + l[k].size := by
  unfold textsLen
  rw [List.take_succ_eq_append_getElem h, List.map_append, List.sum_append]; rfl
theorem textsLen_mem {l : List ByteArray} {x : ByteArray} (h : x ∈ l) : x.size ≤ textsLen l := by
  unfold textsLen
  induction l with
  | nil => cases h
  | cons a l ih =>
    rw [List.map_cons, List.sum_cons]
    rcases List.mem_cons.1 h with rfl | h
    · omega
    · have := ih h; omega
theorem actsLen_take (l : List S36) (k : Nat) (h : k < l.length) : actsLen (l.take (k + 1)) = actsLen (l.take k) + actLen l[k] := by
  unfold actsLen
  rw [List.take_succ_eq_append_getElem h, List.map_append, List.sum_append]; rfl
theorem actsLen_mem {l : List S36} {x : S36} (h : x ∈ l) : actLen x ≤ actsLen l := by
  unfold actsLen
  induction l with
  | nil => cases h
  | cons a l ih =>
    rw [List.map_cons, List.sum_cons]
    rcases List.mem_cons.1 h with rfl | h
    · omega
    · have := ih h; omega
theorem sum_le_take (l : List S36) (k : Nat) : actsLen (l.take k) ≤ actsLen l := by
  conv => rhs; rw [← List.take_append_drop k l]
  unfold actsLen
  rw [List.map_append, List.sum_append]; omega
theorem texts_le_take (l : List ByteArray) (k : Nat) : textsLen (l.take k) ≤ textsLen l := by
  conv => rhs; rw [← List.take_append_drop k l]
  unfold textsLen
  rw [List.map_append, List.sum_append]; omega
end Go.Proofs.Ytccdmedhkbabpaa

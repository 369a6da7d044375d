/- Texts of this claim, one behind the other: what their heads say. Conditions: those that each theorem names. -/
import Derived.OpenShut
import Derived.SizedLaws
import Derived.Deep.RegionHeld3
import Derived.Test.YtccdmedhkbabpaaWWords
import Derived.Deep.Slices
import Derived.ChangeArms
import Derived.Test.YtccdmedhkbabpaaProg
import Derived.KernelRfl
import Derived.WideShapes
import Derived.Test.YtccdmedhkbabpaaWGuard
import Derived.Test.YtccdmedhkbabpaaT3
set_option linter.unusedVariables false
set_option linter.unusedSimpArgs false
/- The log's awake; what the laws share. Conditions: those that each theorem names. -/
namespace Go.Proofs.Ytccdmedhkbabpaa
open Go.RowKit Go.Proofs.YtccdmedhkbabpaaW.PrintWords PRd PFr

section
variable {Y : Nat → Obj → Prop} {w0 w : World} {g gl ar : Nat} {room left gen : Int} {A : Nat → Ar} {rec : List ByteArray}
/-- A log that is up: the drum, the log's block, and what it holds. -/
structure LogAt (Y : Nat → Obj → Prop) (w0 W : World) (g gl : Nat) (room left : Int) (A : Nat → Ar) (ar : Nat) (gen : Int) (rec : List ByteArray) : Prop where
  d : ∃ K V, IsD (LX Y gl g (ar : Int) gen) w0 W g room left false A K V
  b : Below w0.heap.size w0 W
  f : Fit room left A
  u : Up A ar gen rec
theorem LogAt.below {W : World} (h : LogAt Y w0 w g gl room left A ar gen rec) (hb : Below w.heap.size w W) : LogAt Y w0 W g gl room left A ar gen rec := by
  obtain ⟨⟨K, V, hI⟩, hB, hF, hU⟩ := h
  exact ⟨⟨K, V, hI.below hb⟩, below_then hB hB.size hb, hF, hU⟩
theorem Fit.none_ (hr : 0 ≤ room) : Fit room (-1) (fun _ => none) := ⟨(fun i _ b s e => by cases e), hr, by decide⟩
theorem Fit.sz (h : Fit room left A) (i : Nat) (hi : i < 4) : ((sz (A i) : Nat) : Int) ≤ room := by
  have := sz_le A i hi
  have := h.used
  omega
theorem Fit.bz (h : Fit room left A) (hrm : room ≤ 1048576) : ∀ i, i < 4 → ∀ b s, A i = some (b, s) → b.size ≤ 9223372036854775807 := by
  intro i hi b s e
  have h1 := h.sz i hi
  rw [e] at h1
  have h2 : ((b.size : Nat) : Int) ≤ room := h1
  omega
/-- A new drum. -/
theorem drum_new (room : Int) (h0 : 0 ≤ room) (h1 : room ≤ 1048576) (w0 w : World) (hB : Below w0.heap.size w0 w) : Calls Try.prog 9 #[.int .i64 room] w fun e w' => ∃ g, e = .returned (.tuple #[.pointer (some ⟨g, 0, none⟩), .int .i64 0]) ∧ (∃ K V, IsD NoX w0 w' g room (-1) false (fun _ => none) K V) ∧ Below w0.heap.size w0 w' := by
  refine (new_calls room ⟨by omega, by omega⟩ w0 w hB).mono ?_
  rintro e w' ⟨hb, h⟩
  rw [if_neg (by omega)] at h
  obtain ⟨g, rfl, K, V, hI⟩ := h
  exact ⟨g, rfl, ⟨K, V, hI⟩, hb⟩
/-- A new drum's log. -/
theorem log_new {K : Nat → Nat} {V : Nat → Value} (hI : IsD Y w0 w g room (-1) false (fun _ => none) K V) (hB : Below w0.heap.size w0 w) (h0 : 100 ≤ room) (h1 : room ≤ 1048576) :
    Calls Try.prog 10 #[.pointer (some ⟨g, 0, none⟩)] w fun e w' => ∃ gl v A, e = .returned (.tuple #[.pointer (some ⟨gl, 0, none⟩), v, .int .i64 0]) ∧ w.heap.size ≤ gl ∧ LogAt Y w0 w' g gl room (-1) A 0 1 [] ∧ sz (A 0) = (layB 1 []).size ∧ Kd.R Kd.string 9 w' w0.heap.size (fun _ => True) v [] := by
  have hF : Fit room (-1) (fun _ => (none : Ar)) := Fit.none_ (by omega)
  refine (lopen_calls hI hB hF h1).mono ?_
  obtain ⟨B', ho, hu, hz⟩ := open_new (room := room) h0
  have hf := openR_fit (down := false) hF
  rw [ho] at hf ⊢
  rintro e w' (⟨h, _⟩ | ⟨_, gl, v, rfl, hgl, ⟨hd, hb⟩, hR⟩)
  · exact absurd rfl h
  · exact ⟨gl, v, B', rfl, hgl, ⟨hd, hb, hf, hu⟩, hz, hR⟩
/-- A fall. -/
theorem log_fall (xs : List Int) (R0 : Option Addr) (c0 : Nat) {left : Int} {down : Bool} {K : Nat → Nat} {V : Nat → Value} (hxl : xs.length ≤ c0) (hI : IsD Y w0 w g room left down A K V) (hB : Below w0.heap.size w0 w) (hF : Fit room left A) (h1 : room ≤ 1048576) (hr : ReadsInt w .i64 R0 xs.length xs) (hkf : ∀ ad, R0 = some ad → 0 < xs.length → ad.block < w0.heap.size) :
    Calls Try.prog 14 #[.pointer (some ⟨g, 0, none⟩), .slice R0 xs.length c0] w fun e w' => e = .returned (.tuple #[]) ∧ (∃ V', IsD Y w0 w' g room (-1) false (fallTo xs A 4) K V') ∧ Below w0.heap.size w0 w' :=
  fall_calls xs R0 c0 hxl hI hB hr (fun ad e h0 i hi hs => by
    obtain ⟨⟨b, s⟩, e2⟩ := Option.isSome_iff_exists.1 hs
    have h2 := (hI.ha i hi b s e2).2.1
    have h3 := hkf ad e h0
    omega) hF.sb (hF.bz h1)
theorem reads_none (w : World) : ReadsInt w .i64 none ([] : List Int).length [] := ⟨rfl, by decide, fun h => absurd h (by decide)⟩
/-- What was up is opened behind a fall. -/
theorem log_open {xs : List Int} {K : Nat → Nat} {V : Nat → Value} {cand : List (List ByteArray)} {G : Int} (hI : IsD Y w0 w g room (-1) false (fallTo xs A 4) K V) (hB : Below w0.heap.size w0 w) (hF : Fit room left A) (hD : Dn room A G cand) (h1 : room ≤ 1048576) :
    Calls Try.prog 10 #[.pointer (some ⟨g, 0, none⟩)] w fun e w' => ∃ (gl : Nat) (v : Value) (A' : Nat → Ar) (ar' : Nat) (gen' : Int) (rec' : List ByteArray), e = .returned (.tuple #[.pointer (some ⟨gl, 0, none⟩), v, .int .i64 0]) ∧ w.heap.size ≤ gl ∧ rec' ∈ cand ∧ gen' ≤ G ∧ openR room (-1) false (fallTo xs A 4) = ((0, -1, false, A'), (ar' : Int), gen', rec') ∧ LogAt Y w0 w' g gl room (-1) A' ar' gen' rec' ∧ Kd.R Kd.string 9 w' w0.heap.size (fun _ => True) v rec' := by
  refine (lopen_calls hI hB (hF.fall xs) h1).mono ?_
  obtain ⟨ar', g', rec', B', hc, hg, ho, hu⟩ := hD xs
  have hf := openR_fit (down := false) (hF.fall xs)
  rw [ho] at hf ⊢
  rintro e w' (⟨h, _⟩ | ⟨_, gl, v, rfl, hgl, ⟨hd, hb⟩, hR⟩)
  · exact absurd rfl h
  · exact ⟨gl, v, B', ar', g', rec', rfl, hgl, hc, hg, rfl, ⟨hd, hb, hf, hu⟩, hR⟩
/-- A fall of a log that is up, and it is opened: just the same. -/
theorem log_reopen {xs : List Int} {K : Nat → Nat} {V : Nat → Value} (hI : IsD Y w0 w g room (-1) false (fallTo xs A 4) K V) (hB : Below w0.heap.size w0 w) (hF : Fit room left A) (hU : Up A ar gen rec) (hg : gen ≤ 18446744073709551615) (h1 : room ≤ 1048576) :
    Calls Try.prog 10 #[.pointer (some ⟨g, 0, none⟩)] w fun e w' => ∃ gl v A', e = .returned (.tuple #[.pointer (some ⟨gl, 0, none⟩), v, .int .i64 0]) ∧ w.heap.size ≤ gl ∧ LogAt Y w0 w' g gl room (-1) A' ar gen rec ∧ A' ar = A ar ∧ Kd.R Kd.string 9 w' w0.heap.size (fun _ => True) v rec := by
  refine (lopen_calls hI hB (hF.fall xs) h1).mono ?_
  obtain ⟨B', ho, hu, he⟩ := hU.fall (room := room) hg xs
  have hf := openR_fit (down := false) (hF.fall xs)
  rw [ho] at hf ⊢
  rintro e w' (⟨h, _⟩ | ⟨_, gl, v, rfl, hgl, ⟨hd, hb⟩, hR⟩)
  · exact absurd rfl h
  · exact ⟨gl, v, B', rfl, hgl, ⟨hd, hb, hf, hu⟩, he, hR⟩
theorem recF_size (s : ByteArray) : (recF s).size ≤ s.size + 15 := by
  have := wrp_size ((⟨#[82]⟩ : ByteArray) ++ s)
  rw [tag_size] at this
  show (wrp ((⟨#[82]⟩ : ByteArray) ++ s)).1.size ≤ _
  omega
/-- A record that there is room for. -/
theorem log_append (s : ByteArray) (h : LogAt Y w0 w g gl room (-1) A ar gen rec) (hg : gen ≤ 18446744073709551615) (hs : s.size ≤ 16000) (h1 : room ≤ 1048576) (hrm : ((sz (A ar) + (recF s).size : Nat) : Int) ≤ room) :
    Calls Try.prog 11 #[.pointer (some ⟨gl, 0, none⟩), .string s] w fun e w' => ∃ A', e = .returned (.int .i64 0) ∧ LogAt Y w0 w' g gl room (-1) A' ar gen (rec ++ [s]) ∧ sz (A' ar) = sz (A ar) + (recF s).size := by
  obtain ⟨⟨K, V, hI⟩, hB, hF, hU⟩ := h
  have hz := recF_size s
  have hfit := hF.used
  refine (lappend_calls s hI hB hF.left ⟨by have := hU.h4; omega, by have := hU.h4; omega⟩ (by omega) (fun _ => by omega) (by omega)).mono ?_
  rcases append_law (room := room) hU hg (show (-1 : Int) ≤ -1 by decide) s with ⟨h, _⟩ | ⟨_, l', A', h2, h3, h4, h5⟩ | ⟨_, h, _⟩ | ⟨h, _⟩
  · omega
  · have hf : FitR room (appR room (-1) false A (ar : Int) s) := by
      unfold appR
      split
      · exact hF
      · exact wsR_fit hF _ _
    rw [h2 rfl] at h3
    rw [h3] at hf ⊢
    rintro e w' ⟨rfl, hd, hb⟩
    exact ⟨A', rfl, ⟨hd, hb, hf, h4⟩, h5⟩
  · omega
  · exact absurd rfl h
set_option maxRecDepth 100000 in
set_option maxHeartbeats 16000000 in
theorem awake_calls (w : World) : Calls Try.prog 7 #[] w fun e w' => e = .returned (.bool true) ∧ Below w.heap.size w w' := by
  go_enter Try.func7, Try.ntmps7
  go_wp2_with fail
  refine (drum_new 1000 (by decide) (by decide) w w (Below.refl _ _)).mono ?_
  rintro e w1 ⟨g, rfl, ⟨K1, V1, hI1⟩, hB1⟩
  have HI1 := Lib.hid hI1
  have HB1 := Lib.hid hB1
  clear hI1 hB1
  go_wp2_with fail
  refine (log_new HI1.out HB1.out (by decide) (by decide)).mono ?_
  rintro e w2 ⟨gl, v2, A2, rfl, hgl, hL, hz, hR⟩
  have HL2 := Lib.hid hL
  have HZ2 := Lib.hid hz
  obtain ⟨R2, c2, rfl⟩ := Kd.R_slice hR
  clear hL hz hR hgl HI1 HB1
  go_wp2_with fail
  refine (log_append ⟨#[97]⟩ HL2.out (by decide) (by decide) (by decide) (by have := HZ2.out; have := layB_nil 1 (by decide); have := recF_size ⟨#[97]⟩; have e : (⟨#[97]⟩ : ByteArray).size = 1 := rfl; omega)).mono ?_
  rintro e w3 ⟨A3, rfl, hL, hz⟩
  have HL3 := Lib.hid hL
  have HZ3 := Lib.hid hz
  clear hL hz HL2
  go_wp2_with fail
  refine (log_append ⟨#[98]⟩ HL3.out (by decide) (by decide) (by decide) (by have := HZ3.out; have := HZ2.out; have := layB_nil 1 (by decide); have := recF_size ⟨#[97]⟩; have := recF_size ⟨#[98]⟩; have e : (⟨#[97]⟩ : ByteArray).size = 1 := rfl; have e : (⟨#[98]⟩ : ByteArray).size = 1 := rfl; omega)).mono ?_
  rintro e w4 ⟨A4, rfl, hL, hz⟩
  have HL4 := Lib.hid hL
  clear hL hz HL3 HZ3 HZ2
  go_wp2_with fail
  obtain ⟨⟨K4, V4, hI4⟩, hB4, hF4, hU4⟩ := HL4.out
  have HF4 := Lib.hid hF4
  have HU4 : Hid (Up A4 0 1 [⟨#[97]⟩, ⟨#[98]⟩]) := Lib.hid hU4
  refine (log_fall [] none 0 (Nat.le_refl _) hI4 hB4 hF4 (by decide) (reads_none _) (fun ad h => by cases h)).mono ?_
  rintro e w5 ⟨rfl, ⟨V5, hI5⟩, hB5⟩
  have HI5 := Lib.hid hI5
  have HB5 := Lib.hid hB5
  clear hI4 hB4 hF4 hU4 hI5 hB5 HL4
  go_wp2_with fail
  refine (log_reopen HI5.out HB5.out HF4.out HU4.out (by decide) (by decide)).mono ?_
  rintro e w6 ⟨gl2, v6, A6, rfl, hgl2, hL6, _, hR6⟩
  obtain ⟨R6, c6, rfl⟩ := Kd.R_slice hR6
  obtain ⟨_, _, hC⟩ := Kd.R_reads' hR6
  obtain ⟨ad, rfl, k0⟩ := Kd.at_string hC 0 (by decide) (by decide)
  obtain ⟨ad2, e2, k1⟩ := Kd.at_string hC 1 (by decide) (by decide)
  obtain rfl : ad = ad2 := by injection e2
  have k0' : w6.cell? ad = some (.string ⟨#[97]⟩) := k0
  have k1' : w6.cell? ⟨ad.block, ad.off + 1, none⟩ = some (.string ⟨#[98]⟩) := k1
  have HL6 := Lib.hid hL6
  clear hL6 hR6 hC k0 k1 hgl2 HI5 HB5 HF4 HU4 e2
  go_wp2_with fail
  obtain ⟨⟨K6, V6, hI6⟩, hB6, _, _⟩ := HL6.out
  refine (lgen_calls hI6).mono ?_
  rintro e w7 ⟨rfl, rfl⟩
  have HB7 := Lib.hid hB6
  clear hI6 hB6 HL6
  go_wp2_with fail
  go_ret
  exact ⟨rfl, HB7.out⟩
end
end Go.Proofs.Ytccdmedhkbabpaa
/- The log's Size. Conditions: those that each theorem names. -/
namespace Go.Proofs.Ytccdmedhkbabpaa
open Go.RowKit Go.Proofs.YtccdmedhkbabpaaW.PrintWords
variable {Y : Nat → Obj → Prop} {w0 w : World} {g gl : Nat} {room left area gen : Int} {down : Bool} {A : Nat → Ar} {K : Nat → Nat} {V : Nat → Value}
end Go.Proofs.Ytccdmedhkbabpaa
/- What the log's laws share: Renew, Append with or without room, Size, texts kept beside the drum. Conditions: those that each theorem names. -/
namespace Go.Proofs.Ytccdmedhkbabpaa
open Go.RowKit Go.Proofs.YtccdmedhkbabpaaW.PrintWords PRd PFr

section
variable {Y : Nat → Obj → Prop} {w0 w : World} {g gl ar : Nat} {room left gen : Int} {A : Nat → Ar} {rec : List ByteArray}
theorem LogAt.toY {Y' : Nat → Obj → Prop} (h : LogAt Y w0 w g gl room left A ar gen rec) (hy : ∀ k o, Y' k o → w.heap[k]? = some o ∧ XOk o) : LogAt Y' w0 w g gl room left A ar gen rec := by
  obtain ⟨⟨K, V, hI⟩, hB, hF, hU⟩ := h
  exact ⟨⟨K, V, hI.more fun k o hk => hk.elim (fun h => hI.hx k o (.inl h)) (hy k o)⟩, hB, hF, hU⟩
theorem LogAt.y (h : LogAt Y w0 w g gl room left A ar gen rec) {k : Nat} {o : Obj} (hk : Y k o) : w.heap[k]? = some o ∧ XOk o := by
  obtain ⟨⟨K, V, hI⟩, _⟩ := h
  exact hI.hx k o (.inr hk)
/-- A row of texts is told beside. -/
theorem LogAt.andRow {base : Nat} {v : Value} {l : List ByteArray} (h : LogAt Y w0 w g gl room left A ar gen rec) (hR : Kd.R Kd.string 9 w base (fun _ => True) v l) : LogAt (fun k o => Y k o ∨ RX w v k o) w0 w g gl room left A ar gen rec :=
  h.toY fun k o hk => hk.elim (fun hk => h.y hk) fun hk => ⟨hk.2, RX_ok hR hk⟩
theorem LogAt.outRow {W1 : World} {base : Nat} {v : Value} {l : List ByteArray} (h : LogAt (fun k o => Y k o ∨ RX W1 v k o) w0 w g gl room left A ar gen rec) (hR : Kd.R Kd.string 9 W1 base (fun _ => True) v l) :
    LogAt Y w0 w g gl room left A ar gen rec ∧ Kd.R Kd.string 9 w base (fun _ => True) v l :=
  ⟨h.toY fun k o hk => h.y (.inl hk), RX_R hR fun k o hk => (h.y (.inr hk)).1⟩
/-- Only a row of another type has been written. -/
theorem IsD.keepRow {X : Nat → Obj → Prop} {down : Bool} {K : Nat → Nat} {V : Nat → Value} {W : World} {base n size : Nat} {e : TypeId} {v : Value} {xs : List Value} (h : IsD X w0 w g room left down A K V) (ho : w.ownsRow base e size v n xs) (e1 : e ≠ 67) (e2 : e ≠ 84) (e3 : e ≠ 5)
    (hm : ∀ k, k < w.heap.size → some k ≠ v.ownBlock → W.heap[k]? = w.heap[k]?) (hX : ∀ k o, X k o → some k ≠ v.ownBlock) : IsD X w0 W g room left down A K V := by
  refine ⟨(hm g (lt_of_at h.hb) (fun he => row_ne' ho h.hb (Ne.symm e1) g he.symm rfl)).trans h.hb, h.hg, fun i hi b s he => ?_, h.hs, fun k o hk => ⟨(hm k (lt_of_at (h.hx k o hk).1) (hX k o hk)).trans (h.hx k o hk).1, (h.hx k o hk).2⟩⟩
  obtain ⟨h1, h2, h3⟩ := h.ha i hi b s he
  refine ⟨(hm _ (lt_of_at h1) (fun he => row_ne' ho h1 (Ne.symm e2) _ he.symm rfl)).trans h1, h2, own_move h3 fun k hk => hm k (own_lt h3 k hk) (fun he => ?_)⟩
  rcases own_type_ne h3 ho (Ne.symm e3) with h4 | h4
  · rw [h4] at hk; cases hk
  · exact h4 (hk.trans he)
theorem LogAt.keepRow {W : World} {base : Nat} {v : Value} {l : List ByteArray} (h : LogAt Y w0 w g gl room left A ar gen rec) (hR : Kd.R Kd.string 9 w base (fun _ => True) v l) (hg : w.grownBy W v.ownBlock) (hB : Below w0.heap.size w0 W) (hX : ∀ k o, Y k o → some k ≠ v.ownBlock) : LogAt Y w0 W g gl room left A ar gen rec := by
  obtain ⟨⟨K, V, hI⟩, hb, hF, hU⟩ := h
  obtain ⟨a1, cs, ho, a3⟩ := hR
  refine ⟨⟨K, V, hI.keepRow ho (by decide) (by decide) (by decide) (fun k hk hne => hg.block k hk hne) fun k o hk => ?_⟩, hB, hF, hU⟩
  rcases hk with ⟨rfl, rfl⟩ | hk
  · exact fun he => row_ne' ho (LX.at hI) (by decide) k he.symm rfl
  · exact hX k o hk
theorem layB_size (ge : Int) (hg : ge ≤ 18446744073709551615) (rs : List ByteArray) (m : Nat) (h : ∀ x ∈ rs, x.size ≤ m) : (layB ge rs).size ≤ 40 + rs.length * (m + 15) := by
  have key : ∀ l : List ByteArray, (∀ x ∈ l, x.size ≤ m) → (frs (l.map cP)).size ≤ l.length * (m + 15) := by
    intro l
    induction l with
    | nil => intro _; exact Nat.zero_le _
    | cons x l ih =>
      intro h
      have h1 := ih fun y hy => h y (List.mem_cons_of_mem _ hy)
      have h2 := h x (List.mem_cons_self ..)
      have h3 := wrp_size (cP x)
      have h4 : (cP x).size = 1 + x.size := tag_size 67 x
      show ((wrp (cP x)).1 ++ frs (l.map cP)).size ≤ _
      rw [ByteArray.size_append, List.length_cons, Nat.succ_mul]
      omega
  have e : layB ge rs = (wrp (gP ge)).1 ++ (frs (rs.map cP) ++ (wrp eP).1) := by
    unfold layB layTo
    rw [List.take_length, List.cons_append]
    show (wrp (gP ge)).1 ++ frs (rs.map cP ++ [eP]) = _
    rw [frs_snoc]
  rw [e, ByteArray.size_append, ByteArray.size_append]
  have h1 := key rs h
  have h2 := wrp_size (gP ge)
  have h3 := wrp_size eP
  have h4 := gP_size ge hg
  have h5 : eP.size = 1 := rfl
  omega
theorem same_l0' (l : List ByteArray) : ∀ (d i k : Nat), i + d = l.length → l.length ≤ 1000000 → d < k → dovecoteref03_Same.l0 k l l (i : Int) = some true := by
  intro d
  induction d with
  | zero =>
    intro i k hi hl hk
    obtain ⟨k, rfl⟩ : ∃ j, k = j + 1 := ⟨k - 1, by omega⟩
    unfold dovecoteref03_Same.l0
    rw [if_neg (by omega)]
  | succ d ih =>
    intro i k hi hl hk
    obtain ⟨k, rfl⟩ : ∃ j, k = j + 1 := ⟨k - 1, by omega⟩
    unfold dovecoteref03_Same.l0
    rw [if_pos (by omega), if_pos (by omega), if_pos (by omega), if_pos rfl, show wrap64 ((i : Int) + 1) = ((i + 1 : Nat) : Int) by unfold wrap64; omega]
    exact ih (i + 1) k (by omega) hl (by omega)
theorem same_calls (l : List ByteArray) (hl : l.length ≤ 1000000) (A0 A1 : Option Addr) (c0 c1 : Nat) (w : World) (h0 : Kd.string.C w A0 l.length l) (hc0 : l.length ≤ c0) (h1 : Kd.string.C w A1 l.length l) (hc1 : l.length ≤ c1) :
    Calls Try.prog 15 #[.slice A0 l.length c0, .slice A1 l.length c1] w fun e w' => e = .returned (.bool true) ∧ Drawn0 w w' :=
  dovecoteref03_Same.calls (l.length + 1) A0 c0 l A1 c1 l true w h0 hc0 h1 hc1 (by
    unfold dovecoteref03_Same.f
    rw [if_pos rfl]
    exact same_l0' l l.length 0 (l.length + 1) (by omega) hl (by omega))
end
end Go.Proofs.Ytccdmedhkbabpaa
/- How a slice that came in reads as a list: for every kind of element that reads. Conditions: those that each theorem names. -/
namespace Go.Proofs.Ytccdmedhkbabpaa
open Go.RowKit Go.Deep Go.Proofs.YtccdmedhkbabpaaW.PrintWords

/-- A slice's datum and the list that is read: element by element. -/
def QSlice {H : Type} {α : Type} (Q : α → DataW H → Prop) (l : List α) (d : DataW H) : Prop :=
  (d = .nil ∧ l = []) ∨ ∃ (ds sp : List (DataW H)), d = .slice ds sp ∧ ds.length = l.length ∧ ∀ i (h : i < l.length) (h' : i < ds.length), Q l[i] ds[i]

theorem mapM_range {α : Type} (f : Nat → Option α) : ∀ (n : Nat) (cs : List α), (List.range n).mapM f = some cs → cs.length = n ∧ ∀ i, i < n → f i = cs[i]? := by
  intro n
  induction n with
  | zero => intro cs h; simp at h; subst h; simp
  | succ n ih =>
    intro cs h
    rw [List.range_succ, List.mapM_append] at h
    cases h1 : (List.range n).mapM f with
    | none => simp [h1] at h
    | some c1 =>
      cases h2 : f n with
      | none => simp [h1, h2] at h
      | some x =>
        simp [h1, h2] at h
        subst h
        obtain ⟨hl, hi⟩ := ih c1 h1
        refine ⟨by simp [hl], fun i hin => ?_⟩
        by_cases hc : i < n
        · rw [hi i hc, List.getElem?_append_left (by omega)]
        · obtain rfl : i = n := by omega
          rw [h2, List.getElem?_append_right (by omega), hl]; simp

theorem choose_list {α : Type} : ∀ (n : Nat) (p : Nat → α → Prop), (∀ i, i < n → ∃ y, p i y) → ∃ l : List α, l.length = n ∧ ∀ i (h : i < l.length), p i l[i] := by
  intro n
  induction n with
  | zero => intro p _; exact ⟨[], rfl, fun i h => absurd h (by simp)⟩
  | succ n ih =>
    intro p h
    obtain ⟨l, hl, hp⟩ := ih p (fun i hi => h i (by omega))
    obtain ⟨y, hy⟩ := h n (by omega)
    refine ⟨l ++ [y], by simp [hl], fun i hi => ?_⟩
    by_cases hc : i < l.length
    · rw [List.getElem_append_left hc]; exact hp i hc
    · obtain rfl : i = n := by simp at hi; omega
      rw [List.getElem_append_right (by omega)]; simpa using hy
theorem add_add' (a : Addr) (i j : Nat) : (a.add i).add j = a.add (i + j) := by
  unfold Addr.add
  by_cases hi : i = 0 <;> by_cases hj : j = 0 <;> simp [hi, hj, Nat.add_assoc]

section
variable {H : Type} {enc : TypeId × Value → H} {P : Program} {W : World} {base : Nat} {spare : Nat → Bool} {held : Bool}
theorem open_kd {α : Type} {k : Kd α} {Q : α → DataW H → Prop} {t e : TypeId} {fuel : Nat} {cs : List Value} {x : DataW H × List MemPlace}
    (ht : P.underlying t = some (.slice e)) (hsz : P.cellsOf e = k.sz)
    (hO : ∀ n cs x, DataW.trod enc P W base spare held n e cs = some x → ∃ a, k.K W a cs ∧ Q a x.1)
    (h : DataW.trod enc P W base spare held fuel t cs = some x) :
    ∃ (A : Option Addr) (c : Nat) (l : List α), cs = [.slice A l.length c] ∧ l.length ≤ c ∧ k.C W A l.length l ∧ QSlice Q l x.1 := by
  rcases open_slice ht h with ⟨rfl, rfl⟩ | ⟨a, len, cap, m, n, D, Pl, rfl, hb, hl, hm, hmm, rfl, hx⟩
  · exact ⟨none, 0, [], rfl, Nat.le_refl _, Kd.C_nil k W, .inl ⟨rfl, rfl⟩⟩
  · have hlm : len ≤ m := by rw [hmm]; split <;> omega
    have key : ∀ i, i < len → ∃ y : α, ∃ c, c.length = k.sz ∧ k.K W y c ∧ Q y (D i) ∧ ∀ j u, c[j]? = some u → W.cell? (a.add (i * k.sz + j)) = some u := by
      intro i hi
      obtain ⟨c, hc, ht⟩ := hx i (by omega)
      obtain ⟨y, hK, hQ⟩ := hO _ _ _ ht
      rw [hsz] at hc
      unfold World.cells? at hc
      split at hc
      · obtain ⟨hcl, hci⟩ := mapM_range _ _ _ hc
        refine ⟨y, c, hcl, hK, hQ, fun j u hu => ?_⟩
        have hj : j < c.length := by
          rcases Nat.lt_or_ge j c.length with h | h
          · exact h
          · rw [List.getElem?_eq_none h] at hu; cases hu
        rw [← add_add', hci j (by omega), hu]
      · cases hc
    obtain ⟨l, rfl, hf⟩ := choose_list len _ key
    refine ⟨some a, cap, l, rfl, hl, ⟨rfl, by unfold maxLen at hm; omega, fun _ => ⟨a, rfl, fun j p hp => ?_⟩⟩, ?_⟩
    · obtain ⟨hj, rfl⟩ := List.getElem?_eq_some_iff.1 hp
      obtain ⟨c, h1, h2, _, h4⟩ := hf j hj
      exact ⟨c, h1, h2, h4⟩
    · right
      refine ⟨_, _, rfl, by simp, fun i h h' => ?_⟩
      obtain ⟨c, _, _, h3, _⟩ := hf i h
      simpa using h3
end
end Go.Proofs.Ytccdmedhkbabpaa
/- Lists of texts and acts, opened. Conditions: those that each theorem names. -/
namespace Go.Proofs.Ytccdmedhkbabpaa
open Go.RowKit Go.Deep Go.Proofs.YtccdmedhkbabpaaW.PrintWords

/-- How far the texts reach. -/
theorem weights_at {H : Type} {P : Program} {t e : TypeId} {ds sp : List (DataW H)} (hu : P.underlying t = some (.slice e)) (z : ∀ n ∈ DataW.weights P t (.slice ds sp), n ≤ reachBytes) : ∀ d ∈ ds, ∀ n ∈ DataW.weights P e d, n ≤ reachBytes := by
  have hall : ∀ (l : List (DataW H)) (d : DataW H), d ∈ l → ∀ n ∈ DataW.weights P e d, n ∈ DataW.weightsAll P e l := by
    intro l
    induction l with
    | nil => intro d hd; cases hd
    | cons a l ih =>
      intro d hd n hn
      simp only [DataW.weightsAll, List.mem_append]
      rcases List.mem_cons.1 hd with rfl | hd
      · exact .inl hn
      · exact .inr (ih d hd n hn)
  intro d hd n hn
  refine z n ?_
  unfold DataW.weights
  rw [hu]
  simp only [List.mem_cons, List.mem_append]
  exact .inr (.inl (hall ds d hd n hn))
def QStr {H : Type} (a : ByteArray) (d : DataW H) : Prop := d = .lit (.string a.data.toList)
theorem open_str {H : Type} {enc : TypeId × Value → H} {P : Program} {W : World} {base : Nat} {spare : Nat → Bool} {held : Bool} {e : TypeId} (ht : P.underlying e = some .string) :
    ∀ n cs x, DataW.trod enc P W base spare held n e cs = some x → ∃ a : ByteArray, Kd.string.K W a cs ∧ QStr a x.1 := by
  intro n cs x h
  obtain ⟨a, q, z, w⟩ := DataW.trod_string ht h
  subst z
  exact ⟨a, by first | exact q | (subst q; rfl), rfl⟩
theorem str_weight {H : Type} {P : Program} {e : TypeId} (s : ByteArray) : s.size ∈ DataW.weights (H := H) P e (.lit (.string s.data.toList)) := by
  rw [DataW.weights]
  have h : s.data.toList.length = s.size := by obtain ⟨⟨l⟩⟩ := s; rfl
  exact List.mem_singleton.2 h.symm
theorem strs_reach {H : Type} {P : Program} {t e : TypeId} (hu : P.underlying t = some (.slice e)) {l : List ByteArray} {d : DataW H} (hq : QSlice QStr l d) (z : ∀ n ∈ DataW.weights P t d, n ≤ reachBytes) : ∀ x ∈ l, x.size ≤ reachBytes := by
  intro x hx
  rcases hq with ⟨_, rfl⟩ | ⟨ds, sp, rfl, hl, hq⟩
  · cases hx
  · obtain ⟨i, hi, rfl⟩ := List.mem_iff_getElem.1 hx
    have h1 := hq i hi (by omega)
    refine weights_at hu z ds[i] (List.getElem_mem _) _ ?_
    rw [h1]
    exact str_weight _
theorem reach_le : reachBytes ≤ 140737488355328 := by decide
end Go.Proofs.Ytccdmedhkbabpaa
/- The log's acts, opened; small. Conditions: those that each theorem names. -/
namespace Go.Proofs.Ytccdmedhkbabpaa
open Go.RowKit Go.Deep Go.Proofs.YtccdmedhkbabpaaW.PrintWords

structure S36 where
  f0 : Int
  f1 : Int
  f2 : ByteArray
  f3 : List ByteArray
  f4 : List Int
def z36 : S36 := ⟨0, 0, ⟨#[]⟩, [], []⟩
def k36 : Kd S36 := Kd.iso (Kd.pair (Kd.int .i64) (Kd.pair (Kd.int .i64) (Kd.pair Kd.string (Kd.pair (Kd.slice 9 Kd.string) (Kd.slice 3 (Kd.int .i64)))))) (fun x : S36 => (x.f0, x.f1, x.f2, x.f3, x.f4))
theorem k36_open {w : World} {x : S36} {cs : List Value} (h : k36.K w x cs) : ∃ A c B d, x.f3.length ≤ c ∧ Kd.string.C w A x.f3.length x.f3 ∧ x.f4.length ≤ d ∧ (Kd.int .i64).C w B x.f4.length x.f4 ∧ cs = [.int .i64 x.f0, .int .i64 x.f1, .string x.f2, .slice A x.f3.length c, .slice B x.f4.length d] := by
  obtain ⟨_, _, rfl, rfl, ⟨_, _, rfl, rfl, ⟨_, _, rfl, rfl, ⟨_, _, rfl, ⟨A, c, rfl, hl, hC⟩, ⟨B, d, rfl, hm, hD⟩⟩⟩⟩⟩ := h
  exact ⟨A, c, B, d, hl, hC, hm, hD, rfl⟩
theorem k36_mk (w : World) (x : S36) (A : Option Addr) (c : Nat) (hl : x.f3.length ≤ c) (hC : Kd.string.C w A x.f3.length x.f3) (B : Option Addr) (d : Nat) (hm : x.f4.length ≤ d) (hD : (Kd.int .i64).C w B x.f4.length x.f4) : k36.K w x [.int .i64 x.f0, .int .i64 x.f1, .string x.f2, .slice A x.f3.length c, .slice B x.f4.length d] :=
  ⟨[.int .i64 x.f0], [.int .i64 x.f1, .string x.f2, .slice A x.f3.length c, .slice B x.f4.length d], rfl, rfl, ⟨[.int .i64 x.f1], [.string x.f2, .slice A x.f3.length c, .slice B x.f4.length d], rfl, rfl, ⟨[.string x.f2], [.slice A x.f3.length c, .slice B x.f4.length d], rfl, rfl, ⟨[.slice A x.f3.length c], [.slice B x.f4.length d], rfl, ⟨A, c, rfl, hl, hC⟩, ⟨B, d, rfl, hm, hD⟩⟩⟩⟩⟩
theorem ints_of_C {w : World} {A : Option Addr} {n : Nat} {xs : List Int} (h : (Kd.int .i64).C w A n xs) : ReadsInt w .i64 A n xs :=
  readsInt_of.2 (Kd.reads_of_C (enc := Value.int .i64) (d := (0 : Int)) (h1 := fun _ => rfl) h)
def QInt {H : Type} (k : IntKind) (n : Int) (d : DataW H) : Prop := d = .lit (.int k n) ∧ (Lit.int k n).wf = true
theorem open_int' {H : Type} {enc : TypeId × Value → H} {P : Program} {W : World} {base : Nat} {spare : Nat → Bool} {held : Bool} {k : IntKind} {e : TypeId} (ht : P.underlying e = some (.int k)) :
    ∀ n cs x, DataW.trod enc P W base spare held n e cs = some x → ∃ a, (Kd.int k).K W a cs ∧ QInt k a x.1 := by
  intro n cs x h
  obtain ⟨a, q, z, wf⟩ := DataW.trod_int ht h
  subst z
  exact ⟨a, q, rfl, wf⟩
def Q36 {H : Type} (a : S36) (d : DataW H) : Prop := ∃ e3 e4 : DataW H, d = .agg [.lit (.int .i64 a.f0), .lit (.int .i64 a.f1), .lit (.string a.f2.data.toList), e3, e4] ∧ (Lit.int .i64 a.f0).wf = true ∧ (Lit.int .i64 a.f1).wf = true ∧ a.f2.size ≤ maxLen ∧ QSlice QStr a.f3 e3 ∧ QSlice (QInt .i64) a.f4 e4
set_option maxRecDepth 100000 in
theorem open_S36 {H : Type} {enc : TypeId × Value → H} {W : World} {base : Nat} {spare : Nat → Bool} {held : Bool} (n : Nat) (cs : List Value) (x : DataW H × List MemPlace) (h : DataW.trod enc Try.prog W base spare held n 36 cs = some x) : ∃ a : S36, k36.K W a cs ∧ Q36 a x.1 := by
  have hc0 : Try.prog.cellsOf 36 = 5 := by kernel_rfl
  obtain ⟨xs0, n0, _, hx0, hl0, hn0, hf0⟩ := DataW.trod_struct Try.underlying36 h
  rw [hc0] at hl0
  obtain ⟨c0_0, c0_1, c0_2, c0_3, c0_4, rfl⟩ : ∃ c0_0 c0_1 c0_2 c0_3 c0_4, cs = [c0_0, c0_1, c0_2, c0_3, c0_4] := by
    match cs, hl0 with
    | [c0_0, c0_1, c0_2, c0_3, c0_4], _ => exact ⟨_, _, _, _, _, rfl⟩
  obtain ⟨x0_0, x0_1, x0_2, x0_3, x0_4, rfl⟩ : ∃ x0_0 x0_1 x0_2 x0_3 x0_4, xs0 = [x0_0, x0_1, x0_2, x0_3, x0_4] := by
    match xs0, hn0 with
    | [x0_0, x0_1, x0_2, x0_3, x0_4], _ => exact ⟨_, _, _, _, _, rfl⟩
  have h0_0 : DataW.trod enc Try.prog W base spare held n0 3 (List.take (Try.prog.cellsOf 3) (List.drop 0 [c0_0, c0_1, c0_2, c0_3, c0_4])) = [x0_0, x0_1, x0_2, x0_3, x0_4][0]? := hf0 0 _ rfl
  rw [show Try.prog.cellsOf 3 = 1 from by kernel_rfl] at h0_0
  replace h0_0 : DataW.trod enc Try.prog W base spare held n0 3 [c0_0] = some x0_0 := h0_0
  have h0_1 : DataW.trod enc Try.prog W base spare held n0 3 (List.take (Try.prog.cellsOf 3) (List.drop 1 [c0_0, c0_1, c0_2, c0_3, c0_4])) = [x0_0, x0_1, x0_2, x0_3, x0_4][1]? := hf0 1 _ rfl
  rw [show Try.prog.cellsOf 3 = 1 from by kernel_rfl] at h0_1
  replace h0_1 : DataW.trod enc Try.prog W base spare held n0 3 [c0_1] = some x0_1 := h0_1
  have h0_2 : DataW.trod enc Try.prog W base spare held n0 9 (List.take (Try.prog.cellsOf 9) (List.drop 2 [c0_0, c0_1, c0_2, c0_3, c0_4])) = [x0_0, x0_1, x0_2, x0_3, x0_4][2]? := hf0 2 _ rfl
  rw [show Try.prog.cellsOf 9 = 1 from by kernel_rfl] at h0_2
  replace h0_2 : DataW.trod enc Try.prog W base spare held n0 9 [c0_2] = some x0_2 := h0_2
  have h0_3 : DataW.trod enc Try.prog W base spare held n0 30 (List.take (Try.prog.cellsOf 30) (List.drop 3 [c0_0, c0_1, c0_2, c0_3, c0_4])) = [x0_0, x0_1, x0_2, x0_3, x0_4][3]? := hf0 3 _ rfl
  rw [show Try.prog.cellsOf 30 = 1 from by kernel_rfl] at h0_3
  replace h0_3 : DataW.trod enc Try.prog W base spare held n0 30 [c0_3] = some x0_3 := h0_3
  have h0_4 : DataW.trod enc Try.prog W base spare held n0 34 (List.take (Try.prog.cellsOf 34) (List.drop 4 [c0_0, c0_1, c0_2, c0_3, c0_4])) = [x0_0, x0_1, x0_2, x0_3, x0_4][4]? := hf0 4 _ rfl
  rw [show Try.prog.cellsOf 34 = 1 from by kernel_rfl] at h0_4
  replace h0_4 : DataW.trod enc Try.prog W base spare held n0 34 [c0_4] = some x0_4 := h0_4
  obtain ⟨a0, q0, z0, w0⟩ := DataW.trod_int Try.underlying3 h0_0
  obtain rfl := List.head_eq_of_cons_eq q0
  subst z0
  obtain ⟨a1, q1, z1, w1⟩ := DataW.trod_int Try.underlying3 h0_1
  obtain rfl := List.head_eq_of_cons_eq q1
  subst z1
  obtain ⟨a2, q2, z2, w2⟩ := DataW.trod_string Try.underlying9 h0_2
  obtain rfl := List.head_eq_of_cons_eq q2
  subst z2
  obtain ⟨A3, g3, a3, q3, w3, r3, z3⟩ := open_kd (k := Kd.string) (Q := QStr) Try.underlying30 (by kernel_rfl) (open_str Try.underlying9) h0_3
  obtain rfl := List.head_eq_of_cons_eq q3
  obtain ⟨A4, g4, a4, q4, w4, r4, z4⟩ := open_kd (k := (Kd.int .i64)) (Q := (QInt .i64)) Try.underlying34 (by kernel_rfl) (open_int' Try.underlying3) h0_4
  obtain rfl := List.head_eq_of_cons_eq q4
  refine ⟨⟨a0, a1, a2, a3, a4⟩, k36_mk W ⟨a0, a1, a2, a3, a4⟩ A3 g3 w3 r3 A4 g4 w4 r4, ?_⟩
  subst hx0
  exact ⟨_, _, rfl, w0, w1, w2, z3, z4⟩

def ActOk (x : S36) : Prop := (-9223372036854775808 ≤ x.f0 ∧ x.f0 ≤ 9223372036854775807) ∧ (-9223372036854775808 ≤ x.f1 ∧ x.f1 ≤ 9223372036854775807) ∧ x.f2.size ≤ 140737488355328 ∧ ∀ y ∈ x.f3, y.size ≤ 140737488355328
/-- An act that came in, read anywhere behind. -/
theorem act_at {w wr : World} {R : Option Addr} {l : List S36} (hC : k36.C w R l.length l) (hB : Below w.heap.size w wr) (hf : ∀ x ∈ l, ActOk x) (i : Nat) (hi : i < l.length) : ∃ ad B c D d, R = some ad ∧ ActOk l[i] ∧ wr.cell? (ad.add (i * 5)) = some (.int .i64 l[i].f0) ∧ wr.cell? ⟨(ad.add (i * 5)).block, (ad.add (i * 5)).off + 1, none⟩ = some (.int .i64 l[i].f1) ∧
    wr.cell? ⟨(ad.add (i * 5)).block, (ad.add (i * 5)).off + 2, none⟩ = some (.string l[i].f2) ∧ wr.cell? ⟨(ad.add (i * 5)).block, (ad.add (i * 5)).off + 3, none⟩ = some (.slice B l[i].f3.length c) ∧
    wr.cell? ⟨(ad.add (i * 5)).block, (ad.add (i * 5)).off + 4, none⟩ = some (.slice D l[i].f4.length d) ∧ l[i].f3.length ≤ c ∧ Kd.string.C w B l[i].f3.length l[i].f3 ∧ l[i].f4.length ≤ d ∧ ReadsInt w .i64 D l[i].f4.length l[i].f4 ∧ ∀ ad, D = some ad → 0 < l[i].f4.length → ad.block < w.heap.size := by
  obtain ⟨ad, cs, e, _, hK, hc0⟩ := Kd.C_get hC z36 (i : Int) (by omega) (by omega)
  have hx : l.getD (i : Int).toNat z36 = l[i] := by
    rw [List.getD_eq_getElem?_getD, Int.toNat_natCast, List.getElem?_eq_getElem hi]; rfl
  rw [hx] at hK
  rw [Int.toNat_natCast] at hc0
  have hc : ∀ j u, cs[j]? = some u → w.cell? (ad.add (i * 5 + j)) = some u := hc0
  obtain ⟨B, c, D, d, hl, hC1, hm, hD, rfl⟩ := k36_open hK
  exact ⟨ad, B, c, D, d, e, hf _ (List.getElem_mem hi), cell_below hB (hc 0 _ rfl), cell_below hB (by rw [← add_field _ _ 1 (by omega)]; exact hc 1 _ rfl), cell_below hB (by rw [← add_field _ _ 2 (by omega)]; exact hc 2 _ rfl), cell_below hB (by rw [← add_field _ _ 3 (by omega)]; exact hc 3 _ rfl), cell_below hB (by rw [← add_field _ _ 4 (by omega)]; exact hc 4 _ rfl), hl, hC1, hm, ints_of_C hD, reads_far (ints_of_C hD)⟩
set_option maxRecDepth 100000 in
theorem act_texts {H : Type} (a : S36) (e3 e4 : DataW H) (hq : QSlice QStr a.f3 e3) (z : ∀ n ∈ DataW.weights Try.prog 36 (.agg [.lit (.int .i64 a.f0), .lit (.int .i64 a.f1), .lit (.string a.f2.data.toList), e3, e4]), n ≤ reachBytes) : a.f2.size ≤ 140737488355328 ∧ ∀ y ∈ a.f3, y.size ≤ 140737488355328 := by
  have e : ∀ ds : List (DataW H), DataW.weights Try.prog 36 (.agg ds) = DataW.weightsEach Try.prog [3, 3, 9, 30, 34] ds := by
    intro ds
    rw [DataW.weights, Try.underlying36]
    rfl
  rw [e] at z
  refine ⟨Nat.le_trans (z _ (DataW.weights_mem_each (j := 2) (t := 9) (d := .lit (.string a.f2.data.toList)) rfl rfl _ (str_weight _))) reach_le, fun y hy => Nat.le_trans (strs_reach Try.underlying30 hq (fun n hn => z n (DataW.weights_mem_each (j := 3) (t := 30) (d := e3) rfl rfl n hn)) y hy) reach_le⟩
set_option maxRecDepth 100000 in
/-- A list of acts that came in, opened. -/
theorem acts_open {H : Type} {enc : TypeId × Value → H} (W : World) (v0 : Value) (d0 : DataW H) (p0 : List MemPlace)
    (h0 : DataW.Trod enc Try.prog W 0 (fun _ => true) true 22 v0 d0 p0) {base : Nat} (u0 : Value.okWide Try.prog W .any base 22 v0) (z0 : ∀ n ∈ DataW.weights Try.prog 22 d0, n ≤ reachBytes) :
    ∃ (A : Option Addr) (c : Nat) (l : List S36), v0 = .slice A l.length c ∧ l.length ≤ c ∧ k36.C W A l.length l ∧ (∀ x ∈ l, ActOk x) ∧ l.length ≤ 9223372036854775807 := by
  obtain ⟨a, len, cap, rfl⟩ := WideShapes.okWide_slice Try.underlying22 u0
  obtain ⟨fuel, hf⟩ := h0
  obtain ⟨A, c, l, hcs, hlc, hC, hQ⟩ := open_kd (k := k36) (Q := fun a d => Q36 a d) Try.underlying22 (by kernel_rfl) open_S36 hf
  simp only [Value.cells, List.cons.injEq, Value.slice.injEq, and_true] at hcs
  obtain ⟨rfl, rfl, rfl⟩ := hcs
  refine ⟨a, cap, l, rfl, hlc, hC, ?_, hC.2.1⟩
  intro x hx
  rcases hQ with ⟨_, rfl⟩ | ⟨ds, sp, rfl, hl, hq⟩
  · cases hx
  · obtain ⟨i, hi, rfl⟩ := List.getElem_of_mem hx
    have hid : i < ds.length := by omega
    obtain ⟨e3, e4, hd, q0, q1, q2, q3, q4⟩ := hq i hi hid
    have hz := weights_at Try.underlying22 z0 ds[i] (List.getElem_mem hid)
    rw [hd] at hz
    obtain ⟨t1, t2⟩ := act_texts _ e3 e4 q3 hz
    exact ⟨Go.bounds_i64 q0, Go.bounds_i64 q1, t1, t2⟩
/-- How many bytes the acts have. -/
def textsLen (l : List ByteArray) : Nat := (l.map ByteArray.size).sum
def actLen (x : S36) : Nat := x.f2.size + textsLen x.f3
def actsLen (l : List S36) : Nat := (l.map actLen).sum
theorem textsLen_take (l : List ByteArray) (k : Nat) (h : k < l.length) : textsLen (l.take (k + 1)) = textsLen (l.take k) + l[k].size := by
  unfold textsLen
  rw [List.take_succ_eq_append_getElem h, List.map_append, List.sum_append]; rfl
theorem actsLen_take (l : List S36) (k : Nat) (h : k < l.length) : actsLen (l.take (k + 1)) = actsLen (l.take k) + actLen l[k] := by
  unfold actsLen
  rw [List.take_succ_eq_append_getElem h, List.map_append, List.sum_append]; rfl
theorem texts_le_take (l : List ByteArray) (k : Nat) : textsLen (l.take k) ≤ textsLen l := by
  conv => rhs; rw [← List.take_append_drop k l]
  unfold textsLen
  rw [List.map_append, List.sum_append]; omega
end Go.Proofs.Ytccdmedhkbabpaa
/- small: not too much. Conditions: those that each theorem names. -/
namespace Go.Proofs.Ytccdmedhkbabpaa
open Go.RowKit Go.Proofs.YtccdmedhkbabpaaW.PrintWords PRd PFr

/-- What small answers. -/
def Small5 (l : List S36) (w : World) (e : Ending) (w' : World) : Prop := ∃ b : Bool, e = .returned (.bool b) ∧ Below w.heap.size w w' ∧ (b = true → actsLen l ≤ 60000 ∧ ∀ x ∈ l, x.f3.length ≤ 50)
theorem textsLen_le (l : List ByteArray) (m : Nat) (h : ∀ x ∈ l, x.size ≤ m) : textsLen l ≤ l.length * m := by
  unfold textsLen
  induction l with
  | nil => exact Nat.zero_le _
  | cons a l ih =>
    have h1 := ih fun x hx => h x (List.mem_cons_of_mem _ hx)
    have h2 := h a (List.mem_cons_self ..)
    rw [List.map_cons, List.sum_cons, List.length_cons, Nat.succ_mul]
    omega
set_option maxRecDepth 100000 in
set_option maxHeartbeats 16000000 in
theorem small_calls (R : Option Addr) (cap : Nat) (l : List S36) (hlc : l.length ≤ cap) (hf : ∀ x ∈ l, ActOk x) (hll : l.length ≤ 9223372036854775807) (wb w : World) (hC : k36.C wb R l.length l) (hB : Below wb.heap.size wb w) :
    Calls Try.prog 8 #[.slice R l.length cap] w (Small5 l w) := by
  have HC := Lib.hid hC
  have Hf := Lib.hid hf
  have HBW := Lib.hid hB
  clear hC hf hB
  go_enter Try.func8, Try.ntmps8
  go_wp2_with fail
  go_loopg [3, 10] (l.length + 1) (fun gk v3 v10 wr => ∃ (k n : Nat), k ≤ l.length ∧ v3 = .int .i64 (n : Int) ∧ v10 = .int .i64 (k : Int) ∧ n ≤ 7036874417826400 ∧ Aside0 (k + gk = l.length + 1) ∧ Aside0 (n = actsLen (l.take k)) ∧ Aside0 (∀ x ∈ l.take k, x.f3.length ≤ 50) ∧ Aside0 (Below w.heap.size w wr))
  case atStart => exact ⟨0, 0, Nat.zero_le _, rfl, rfl, Nat.zero_le _, ⟨by omega⟩, ⟨rfl⟩, ⟨by simp⟩, ⟨Below.refl _ _⟩⟩
  case round =>
    obtain ⟨wo, rfl⟩ : ∃ wo : World, wo = wr := ⟨_, rfl⟩
    obtain ⟨gout, rfl⟩ : ∃ gout : Nat, gout = gk := ⟨_, rfl⟩
    obtain ⟨k, n, hk, rfl, rfl, hn, ⟨hg⟩, ⟨hnn⟩, ⟨h50⟩, ⟨hB⟩⟩ := hrel
    have HG := Lib.hid hg
    have HNN := Lib.hid hnn
    have H50 := Lib.hid h50
    have HB := Lib.hid hB
    clear hg hnn h50 hB
    rcases (show k < l.length ∨ k = l.length by omega) with hlt | hlt
    · obtain ⟨ad, B, c, D, d, rfl, hok, k0, k1, k2, k3, k4, hbc, hrs, hdc, hrd, hfar⟩ := act_at HC.out (below_then HBW.out HBW.out.size HB.out) Hf.out k hlt
      have HT := Lib.hid (actsLen_take l k hlt)
      have HTK := Lib.hid (List.take_succ_eq_append_getElem (l := l) (i := k) hlt)
      obtain ⟨x, hx⟩ : ∃ x, x = l[k] := ⟨_, rfl⟩
      rw [← hx] at hok k0 k1 k2 k3 k4 hbc hrs hdc hrd hfar HT HTK
      clear hx
      obtain ⟨f0, f1, f2, f3, f4⟩ := x
      dsimp only at *
      obtain ⟨o0, o1, o2, o3⟩ := hok
      dsimp only at o2 o3
      have HO3 := Lib.hid o3
      have HRS := Lib.hid hrs
      have hnew : (wo.alloc (.cells #[.int .i64 f0, .int .i64 f1, .string f2, .slice B f3.length c, .slice D f4.length d] 36)).cell? ⟨wo.heap.size, 2, none⟩ = some (.string f2) := (blk_cell (heap_alloc_new wo _) 2).trans rfl
      have HB2 := Lib.hid (below_then HB.out HB.out.size (below_alloc (Below.refl wo.heap.size wo) (.cells #[.int .i64 f0, .int .i64 f1, .string f2, .slice B f3.length c, .slice D f4.length d] 36)))
      clear o3 hrs hrd hfar o0 o1 hnew
      rcases (show 60000 < (n : Int) + (f2.size : Int) ∨ ((n : Int) + (f2.size : Int) ≤ 60000 ∧ 50 < (f3.length : Int)) ∨ ((n : Int) + (f2.size : Int) ≤ 60000 ∧ (f3.length : Int) ≤ 50) by omega) with h1 | ⟨h1, h2⟩ | ⟨h1, h2⟩
      · go_wp2_with fail
        go_ret
        exact ⟨false, rfl, HB2.out, fun h => by cases h⟩
      · go_wp2_with fail
        go_ret
        exact ⟨false, rfl, HB2.out, fun h => by cases h⟩
      · have HTL := Lib.hid (textsLen_le f3 140737488355328 HO3.out)
        go_wp2_with fail
        obtain ⟨wq, hwq⟩ : ∃ wq, wq = wo.alloc (.cells #[.int .i64 f0, .int .i64 f1, .string f2, .slice B f3.length c, .slice D f4.length d] 36) := ⟨_, rfl⟩
        rw [← hwq] at HB2
        rw [← hwq]
        clear hwq
        go_loopg [3, 30] (f3.length + 1) (fun gi v3 v30 wr => ∃ (j m : Nat), j ≤ f3.length ∧ v3 = .int .i64 (m : Int) ∧ v30 = .int .i64 (j : Int) ∧ m ≤ 7036874417826400 ∧ Aside0 (j + gi = f3.length + 1) ∧ Aside0 (m = n + f2.size + textsLen (f3.take j)) ∧ Aside0 (wq = wr))
        case atStart => exact ⟨0, n + f2.size, Nat.zero_le _, by go_num, rfl, by omega, ⟨by omega⟩, ⟨rfl⟩, ⟨rfl⟩⟩
        case round =>
          obtain ⟨j, m, hj, rfl, rfl, hm, ⟨hgi⟩, ⟨hmm⟩, ⟨rfl⟩⟩ := hrel
          have HGI := Lib.hid hgi
          have HMM := Lib.hid hmm
          clear hgi hmm
          rcases (show j < f3.length ∨ j = f3.length by omega) with hjl | hjl
          · obtain ⟨ad2, rfl, q0⟩ := Kd.at_string (Kd.C_below HRS.out (below_then HBW.out HBW.out.size HB2.out)) (j : Int) (by omega) (by omega)
            have hy : rdOf ByteArray.empty f3 (j : Int) = f3[j] := by unfold rdOf; rw [List.getD_eq_getElem?_getD, Int.toNat_natCast, List.getElem?_eq_getElem hjl]; rfl
            rw [hy] at q0
            simp only [Int.toNat_natCast] at q0
            have hys := HO3.out f3[j] (List.getElem_mem hjl)
            have HTT := Lib.hid (textsLen_take f3 j hjl)
            have HTT2 := Lib.hid (texts_le_take f3 (j + 1))
            obtain ⟨y, hyy⟩ : ∃ y, y = f3[j] := ⟨_, rfl⟩
            rw [← hyy] at q0 hys HTT
            clear hy hyy
            have hm2 : m + y.size ≤ 7036874417826400 := by
              have a1 := HMM.out; have a2 := HTT.out; have a3 := HTT2.out; have a4 := HTL.out
              have a5 : f3.length * 140737488355328 ≤ 50 * 140737488355328 := Nat.mul_le_mul_right _ (by omega)
              omega
            go_wp2_with fail
            go_roundg (gk - 1)
            case measure => have := HGI.out; omega
            case rel => exact ⟨j + 1, m + y.size, by omega, by go_num, by go_num, hm2, ⟨by have := HGI.out; omega⟩, ⟨by rw [HTT.out, HMM.out]; omega⟩, ⟨rfl⟩⟩
          · subst hjl
            have HM2 : Hid (m = actsLen (l.take (k + 1))) := Lib.hid (by
              rw [HT.out, ← HNN.out, HMM.out, List.take_length]
              show _ = n + (f2.size + textsLen f3)
              omega)
            have HF2 : Hid (∀ x ∈ l.take (k + 1), x.f3.length ≤ 50) := Lib.hid (by
              rw [HTK.out]
              intro x hx
              rcases List.mem_append.1 hx with hx | hx
              · exact H50.out x hx
              · rw [List.mem_singleton.1 hx]; dsimp only; omega)
            go_wp2_with fail
            go_roundg (gout - 1)
            case measure => have := HG.out; omega
            case rel => exact ⟨k + 1, m, by omega, rfl, by go_num, hm, ⟨by have := HG.out; omega⟩, ⟨HM2.out⟩, ⟨HF2.out⟩, ⟨HB2.out⟩⟩
    · subst hlt
      have hls : l.take l.length = l := List.take_length
      rw [hls] at HNN H50
      go_wp2_with fail
      go_ret
      exact ⟨decide ((n : Int) ≤ 60000), rfl, HB.out, fun h => ⟨by have := of_decide_eq_true h; rw [← HNN.out]; omega, H50.out⟩⟩
end Go.Proofs.Ytccdmedhkbabpaa
/- same: the two drums side by side. Conditions: those that each theorem names. -/
namespace Go.Proofs.Ytccdmedhkbabpaa
open Go.RowKit Go.Proofs.YtccdmedhkbabpaaW.PrintWords PRd PFr

/-- The document's drum, as a block. -/
def rob (room left : Int) (down : Bool) (A : Nat → Ar) : Obj := .cells (rcells room left down A) 58 (0, 0)
theorem rob_ok (room left : Int) (down : Bool) (A : Nat → Ar) : XOk (rob room left down A) := ⟨_, _, _, rfl, by decide, by decide, by decide⟩
theorem mobj_ok (gr : Nat) (area gen : Int) : XOk (mobj gr area gen) := ⟨_, _, _, rfl, by decide, by decide, by decide⟩
section
variable {X : Nat → Obj → Prop} {w0 w W1 : World} {g gr gm : Nat} {room left : Int} {down : Bool} {A : Nat → Ar} {K : Nat → Nat} {V : Nat → Value}
/-- Only the document's drum and its log are touched. -/
theorem IsD.keepM (h : IsD X w0 w g room left down A K V) {cs cs' : Array Value} {fr fr' : Nat × Nat} (hr : w.heap[gr]? = some (.cells cs 58 fr)) (hm : w.heap[gm]? = some (.cells cs' 62 fr')) (hk : KeepM w W1 gr gm) {Y : Nat → Obj → Prop} (hy : ∀ k o, Y k o → (k ≠ gr ∧ k ≠ gm ∧ X k o) ∨ (W1.heap[k]? = some o ∧ XOk o)) : IsD Y w0 W1 g room left down A K V := by
  refine ⟨(hk.2 g (lt_of_at h.hb) (blk_ty h.hb hr (by decide)) (blk_ty h.hb hm (by decide))).trans h.hb, h.hg, fun i hi b s e => ?_, h.hs, fun k o hko => ?_⟩
  · obtain ⟨h1, h2, h3⟩ := h.ha i hi b s e
    exact ⟨(hk.2 _ (lt_of_at h1) (blk_ty h1 hr (by decide)) (blk_ty h1 hm (by decide))).trans h1, h2, own_move h3 fun k hk' => hk.2 k (own_lt h3 k hk') (row_ne h3 hr (by decide) k hk') (row_ne h3 hm (by decide) k hk')⟩
  · rcases hy k o hko with ⟨h1, h1', h2⟩ | h1
    · exact ⟨(hk.2 k (lt_of_at (h.hx k o h2).1) h1 h1').trans (h.hx k o h2).1, (h.hx k o h2).2⟩
    · exact h1
theorem IsD.keepG (h : IsD X w0 w g room left down A K V) {cs : Array Value} {fr : Nat × Nat} (hr : w.heap[gr]? = some (.cells cs 58 fr)) (hk : KeepG w W1 gr) {Y : Nat → Obj → Prop} (hy : ∀ k o, Y k o → (k ≠ gr ∧ X k o) ∨ (W1.heap[k]? = some o ∧ XOk o)) : IsD Y w0 W1 g room left down A K V := by
  refine ⟨(hk.2 g (lt_of_at h.hb) (blk_ty h.hb hr (by decide))).trans h.hb, h.hg, fun i hi b s e => ?_, h.hs, fun k o hko => ?_⟩
  · obtain ⟨h1, h2, h3⟩ := h.ha i hi b s e
    exact ⟨(hk.2 _ (lt_of_at h1) (blk_ty h1 hr (by decide))).trans h1, h2, own_move h3 fun k hk' => hk.2 k (own_lt h3 k hk') (row_ne h3 hr (by decide) k hk')⟩
  · rcases hy k o hko with ⟨h1, h2⟩ | h1
    · exact ⟨(hk.2 k (lt_of_at (h.hx k o h2).1) h1).trans (h.hx k o h2).1, (h.hx k o h2).2⟩
    · exact h1
end
end Go.Proofs.Ytccdmedhkbabpaa
/- The log and the document's log side by side: what each act makes of them. Conditions: those that each theorem names. -/
namespace Go.Proofs.Ytccdmedhkbabpaa
open Go.RowKit Go.Proofs.YtccdmedhkbabpaaW.PrintWords PRd PFr

/-- An act's own block, the document's drum; the document's log. -/
def Yn (Z : Nat → Obj → Prop) (gr : Nat) (ro : Obj) : Nat → Obj → Prop := fun k u => Z k u ∨ (k = gr ∧ u = ro)
def Ys (Z : Nat → Obj → Prop) (gr : Nat) (ro : Obj) (gm : Nat) (mo : Obj) : Nat → Obj → Prop := fun k u => Z k u ∨ (k = gr ∧ u = ro) ∨ (k = gm ∧ u = mo)
/-- Acts' own blocks alone. -/
def Acts (Z : Nat → Obj → Prop) : Prop := ∀ k o, Z k o → ∃ cs fr, o = .cells cs 36 fr
def actObj (f0 f1 : Int) (f2 : ByteArray) (v3 v4 : Value) : Obj := .cells #[.int .i64 f0, .int .i64 f1, .string f2, v3, v4] 36 (0, 0)
def ptrIf (up : Bool) (b : Nat) : Value := if up then .pointer (some ⟨b, 0, none⟩) else .pointer none
/-- The program's side and the document's: each has its fuel, whether it is down, its areas, its log's area and generation. -/
structure TwoAt (w0 W : World) (g gr : Nat) (Z : Nat → Obj → Prop) (room : Int) (up : Bool) (gl gm : Nat) (l1 : Int) (d1 : Bool) (A1 : Nat → Ar) (a1 g1 : Int) (l2 : Int) (d2 : Bool) (A2 : Nat → Ar) (a2 g2 : Int) : Prop where
  b : Below w0.heap.size w0 W
  r : w0.heap.size ≤ gr
  n : up = false → ∃ K V, IsD (Yn Z gr (rob room l2 d2 A2)) w0 W g room l1 d1 A1 K V
  s : up = true → w0.heap.size ≤ gl ∧ w0.heap.size ≤ gm ∧ ∃ K V, IsD (LX (Ys Z gr (rob room l2 d2 A2) gm (mobj gr a2 g2)) gl g a1 g1) w0 W g room l1 d1 A1 K V
theorem appR_fit {room left : Int} {down : Bool} {A : Nat → Ar} (h : Fit room left A) (area : Int) (s : ByteArray) : FitR room (appR room left down A area s) := by
  unfold appR
  split
  · exact h
  · exact wsR_fit h _ _
section
variable {w0 w : World} {g gr gl gm : Nat} {Z : Nat → Obj → Prop} {room l1 l2 a1 a2 g1 g2 : Int} {up d1 d2 : Bool} {A1 A2 : Nat → Ar}
theorem TwoAt.below {W : World} (h : TwoAt w0 w g gr Z room up gl gm l1 d1 A1 a1 g1 l2 d2 A2 a2 g2) (hb : Below w.heap.size w W) : TwoAt w0 W g gr Z room up gl gm l1 d1 A1 a1 g1 l2 d2 A2 a2 g2 := by
  refine ⟨below_then h.b h.b.size hb, h.r, fun hu => ?_, fun hu => ?_⟩
  · obtain ⟨K, V, hI⟩ := h.n hu
    exact ⟨K, V, hI.below hb⟩
  · obtain ⟨h1, h2, K, V, hI⟩ := h.s hu
    exact ⟨h1, h2, K, V, hI.below hb⟩
/-- Every block that is told. -/
theorem TwoAt.act (h : TwoAt w0 w g gr Z room up gl gm l1 d1 A1 a1 g1 l2 d2 A2 a2 g2) {k : Nat} {o : Obj} (hk : Z k o) : w.heap[k]? = some o ∧ XOk o := by
  cases up
  · obtain ⟨K, V, hI⟩ := h.n rfl
    exact hI.hx k _ (.inl hk)
  · obtain ⟨_, _, K, V, hI⟩ := h.s rfl
    exact hI.hx k _ (.inr (.inl hk))
theorem TwoAt.ref (h : TwoAt w0 w g gr Z room up gl gm l1 d1 A1 a1 g1 l2 d2 A2 a2 g2) : IsR w0 w gr room l2 d2 A2 := by
  cases up
  · obtain ⟨K, V, hI⟩ := h.n rfl
    exact ⟨(hI.hx gr _ (.inr ⟨rfl, rfl⟩)).1, h.r⟩
  · obtain ⟨_, _, K, V, hI⟩ := h.s rfl
    exact ⟨(hI.hx gr _ (.inr (.inr (.inl ⟨rfl, rfl⟩)))).1, h.r⟩
theorem TwoAt.m (h : TwoAt w0 w g gr Z room true gl gm l1 d1 A1 a1 g1 l2 d2 A2 a2 g2) : IsM w0 w gr gm room l2 d2 A2 a2 g2 := by
  obtain ⟨_, h2, K, V, hI⟩ := h.s rfl
  exact ⟨h.ref, (hI.hx gm _ (.inr (.inr (.inr ⟨rfl, rfl⟩)))).1, h2⟩
theorem TwoAt.d (h : TwoAt w0 w g gr Z room up gl gm l1 d1 A1 a1 g1 l2 d2 A2 a2 g2) : ∃ K V, IsD (Yn Z gr (rob room l2 d2 A2)) w0 w g room l1 d1 A1 K V := by
  cases up
  · exact h.n rfl
  · obtain ⟨_, _, K, V, hI⟩ := h.s rfl
    exact ⟨K, V, hI.more fun k o hk => hk.elim (fun h => hI.hx k o (.inr (.inl h))) fun h => hI.hx k o (.inr (.inr (.inl h)))⟩
/-- The program's drum has moved, all that is told beside it stands. -/
theorem TwoAt.prog {W : World} {l1' : Int} {d1' : Bool} {A1' : Nat → Ar} {a1' g1' : Int} (h : TwoAt w0 w g gr Z room up gl gm l1 d1 A1 a1 g1 l2 d2 A2 a2 g2) (hb : Below w0.heap.size w0 W)
    (hn : up = false → ∃ K V, IsD (Yn Z gr (rob room l2 d2 A2)) w0 W g room l1' d1' A1' K V) (hs : up = true → ∃ K V, IsD (LX (Ys Z gr (rob room l2 d2 A2) gm (mobj gr a2 g2)) gl g a1' g1') w0 W g room l1' d1' A1' K V) :
    TwoAt w0 W g gr Z room up gl gm l1' d1' A1' a1' g1' l2 d2 A2 a2 g2 :=
  ⟨hb, h.r, hn, fun hu => ⟨(h.s hu).1, (h.s hu).2.1, hs hu⟩⟩
/-- The document's drum and log have moved. -/
theorem TwoAt.doc {W : World} {l2' : Int} {d2' : Bool} {A2' : Nat → Ar} {a2' g2' : Int} (h : TwoAt w0 w g gr Z room up gl gm l1 d1 A1 a1 g1 l2 d2 A2 a2 g2) (hob : Acts Z) (hb : Below w0.heap.size w0 W) (hr : IsR w0 W gr room l2' d2' A2')
    (hn : up = false → KeepG w W gr) (hs : up = true → KeepM w W gr gm ∧ W.heap[gm]? = some (mobj gr a2' g2')) :
    TwoAt w0 W g gr Z room up gl gm l1 d1 A1 a1 g1 l2' d2' A2' a2' g2' := by
  refine ⟨hb, h.r, fun hu => ?_, fun hu => ?_⟩
  · subst hu
    obtain ⟨K, V, hI⟩ := h.n rfl
    have hg := h.ref.hb
    refine ⟨K, V, hI.keepG hg (hn rfl) fun k o hk => ?_⟩
    rcases hk with hk | ⟨rfl, rfl⟩
    · obtain ⟨cs, fr, rfl⟩ := hob k o hk
      exact .inl ⟨blk_ty (h.act hk).1 hg (by decide), .inl hk⟩
    · exact .inr ⟨hr.hb, rob_ok _ _ _ _⟩
  · subst hu
    obtain ⟨h1, h2, K, V, hI⟩ := h.s rfl
    obtain ⟨hk, hm⟩ := hs rfl
    have hg := h.ref.hb
    have hmm := h.m.m
    have hl := LX.at hI
    refine ⟨h1, h2, K, V, hI.keepM hg hmm hk fun k o hk => ?_⟩
    rcases hk with ⟨rfl, rfl⟩ | hk | ⟨rfl, rfl⟩ | ⟨rfl, rfl⟩
    · exact .inl ⟨blk_ty hl hg (by decide), blk_ty hl hmm (by decide), .inl ⟨rfl, rfl⟩⟩
    · obtain ⟨cs, fr, rfl⟩ := hob k o hk
      exact .inl ⟨blk_ty (h.act hk).1 hg (by decide), blk_ty (h.act hk).1 hmm (by decide), .inr (.inl hk)⟩
    · exact .inr ⟨hr.hb, rob_ok _ _ _ _⟩
    · exact .inr ⟨hm, mobj_ok _ _ _⟩
theorem TwoAt.setLeft (h : TwoAt w0 w g gr Z room up gl gm l1 d1 A1 a1 g1 l2 d2 A2 a2 g2) (hob : Acts Z) (x : Int) : TwoAt w0 (w.setCell ⟨gr, 1, none⟩ (.int .i64 x)) g gr Z room up gl gm l1 d1 A1 a1 g1 x d2 A2 a2 g2 := by
  refine h.doc hob (h.b.setCell (p := ⟨gr, 1, none⟩) h.r _) (h.ref.setLeft x) (fun _ => (KeepG.refl _ _).set 1 _) fun hu => ?_
  subst hu
  exact ⟨KeepM.of ((KeepG.refl _ _).set 1 _), (Below.heap_setCell w ⟨gr, 1, none⟩ _ gm h.m.ne).trans h.m.m⟩
end
end Go.Proofs.Ytccdmedhkbabpaa
/- LogKeeps' steps: a log on its drum, beside it all lists of texts stand; what is appended, renewed, fallen and opened. Conditions: those that each theorem names. -/
namespace Go.Proofs.Ytccdmedhkbabpaa
open Go.RowKit Go.Deep Go.Proofs.YtccdmedhkbabpaaW.PrintWords PRd PFr

abbrev kT : Kd (List ByteArray) := Kd.slice 9 Kd.string
theorem info_strs : (Try.prog.info? 30).map (fun i => (i.zero, i.size, i.bytes)) = some (some (.slice none 0 0), 1, 24) := by kernel_rfl
/-- Blocks of texts, of lists of texts, of acts. -/
def TB (W1 : World) : Nat → Obj → Prop := fun k o => W1.heap[k]? = some o ∧ ∃ cs t, o = .cells cs t (0, 0) ∧ (t = 9 ∨ t = 30 ∨ t = 36)
theorem TB_ok {W1 : World} {k : Nat} {o : Obj} (h : TB W1 k o) : XOk o := by
  obtain ⟨_, cs, t, rfl, rfl | rfl | rfl⟩ := h <;> exact ⟨_, _, _, rfl, by decide, by decide, by decide⟩
def Told (w w' : World) : Prop := ∀ k o, TB w k o → w'.heap[k]? = some o
theorem told_refl (w : World) : Told w w := fun _ _ h => h.1
theorem told_R {w w' : World} {base : Nat} {v : Value} {xs : List (List ByteArray)} (h : Kd.R kT 30 w base (fun _ => True) v xs) (ht : Told w w') : Kd.R kT 30 w' base (fun _ => True) v xs :=
  Kd.R_mono (Kd.R_move (Kd.R_bound h) (fun k hk => by
    obtain ⟨_, _, _, q, hq, cells, hc⟩ := hk
    have hq2 : q ∈ [30, 9] := hq
    refine (ht k _ ⟨hc, cells, q, rfl, ?_⟩).trans hc.symm
    rcases List.mem_cons.1 hq2 with h | h
    · exact .inr (.inl h)
    · exact .inl (List.mem_singleton.1 h))) (fun _ _ => trivial)
theorem told_S {w w' : World} {base : Nat} {v : Value} {xs : List ByteArray} (h : Kd.R Kd.string 9 w base (fun _ => True) v xs) (ht : Told w w') : Kd.R Kd.string 9 w' base (fun _ => True) v xs :=
  Kd.R_mono (Kd.R_move (Kd.R_bound h) (fun k hk => by
    obtain ⟨_, _, _, q, hq, cells, hc⟩ := hk
    have hq2 : q ∈ [9] := hq
    exact (ht k _ ⟨hc, cells, q, rfl, .inl (List.mem_singleton.1 hq2)⟩).trans hc.symm)) (fun _ _ => trivial)
theorem act_box {w : World} {k : Nat} {f0 f1 : Int} {f2 : ByteArray} {v3 v4 : Value} (h1 : w.heap[k]? = some (actObj f0 f1 f2 v3 v4)) : w.cell? ⟨k, 0, none⟩ = some (.int .i64 f0) ∧ w.cell? ⟨k, 1, none⟩ = some (.int .i64 f1) ∧ w.cell? ⟨k, 2, none⟩ = some (.string f2) ∧ w.cell? ⟨k, 3, none⟩ = some v3 ∧ w.cell? ⟨k, 4, none⟩ = some v4 :=
  ⟨(blk_cell h1 0).trans rfl, (blk_cell h1 1).trans rfl, (blk_cell h1 2).trans rfl, (blk_cell h1 3).trans rfl, (blk_cell h1 4).trans rfl⟩
/-- A literal of one list. -/
theorem R_lit_one (W : World) (base : Nat) (hb : base ≤ W.heap.size) {v : Value} {x : List ByteArray} (h : Kd.R Kd.string 9 W base (fun _ => True) v x) : Kd.R kT 30 (W.alloc (.cells #[v] 30)) base (fun _ => True) (.slice (some ⟨W.heap.size, 0, none⟩) 1 1) [x] := by
  refine ⟨fun _ _ => trivial, [v], ?_, ?_⟩
  · exact World.ownsRow_lit (base := base) (e := 30) (size := 1) W #[v] 1 hb (by decide) rfl
  · refine Reps.snoc (ps := []) (cs := []) (Reps.none _ _) ?_ rfl
    refine ⟨v, rfl, Kd.R_mono (Kd.R_below (Kd.R_bound h) (below_alloc (Below.refl _ _) _)) (fun k hk => ⟨trivial, fun he => ?_⟩)⟩
    have h3 : k = W.heap.size := by simpa [Value.ownBlock] using he
    have := hk.2.2.1
    omega
theorem R_lit_no (W : World) (base : Nat) (hb : base ≤ W.heap.size) : Kd.R Kd.string 9 (W.alloc (.cells #[] 9)) base (fun _ => True) (.slice (some ⟨W.heap.size, 0, none⟩) 0 0) ([] : List ByteArray) := by
  refine ⟨fun _ _ => trivial, [], ?_, ⟨rfl, fun j p hj => by cases hj⟩⟩
  have h2 := World.ownsRow_lit (base := base) (e := 9) (size := 1) W #[] 0 hb (by decide) rfl
  exact h2
theorem R_lit_nob (W : World) (base : Nat) (hb : base ≤ W.heap.size) {b : Nat} (he : b = W.heap.size) : Kd.R Kd.string 9 (W.alloc (.cells #[] 9)) base (fun _ => True) (.slice (some ⟨b, 0, none⟩) 0 0) ([] : List ByteArray) := by
  subst he
  exact R_lit_no W base hb
theorem cand_at {w : World} {A : Option Addr} {l : List (List ByteArray)} (hC : kT.C w A l.length l) (i : Nat) (hi : i < l.length) :
    ∃ ad B c, A = some ad ∧ w.cell? (ad.add i) = some (.slice B l[i].length c) ∧ l[i].length ≤ c ∧ Kd.string.C w B l[i].length l[i] := by
  obtain ⟨ad, cs, e, _, hK, hc0⟩ := Kd.C_get hC [] (i : Int) (by omega) (by omega)
  have hx : l.getD (i : Int).toNat [] = l[i] := by
    rw [List.getD_eq_getElem?_getD, Int.toNat_natCast, List.getElem?_eq_getElem hi]; rfl
  rw [hx] at hK
  rw [Int.toNat_natCast] at hc0
  obtain ⟨B, c, rfl, hl, hC1⟩ := hK
  refine ⟨ad, B, c, e, ?_, hl, hC1⟩
  have h0 := hc0 0 _ rfl
  rw [show i * kT.sz + 0 = i by show i * 1 + 0 = i; omega] at h0
  exact h0
/-- Are two lists the same? It tells. -/
theorem same_any (a b : List ByteArray) : ∀ (d i k : Nat), i + d = a.length → a.length = b.length → a.length ≤ 1000000 → d < k → ∃ r, dovecoteref03_Same.l0 k a b (i : Int) = some r := by
  intro d
  induction d with
  | zero =>
    intro i k hi _ hl hk
    obtain ⟨k, rfl⟩ : ∃ j, k = j + 1 := ⟨k - 1, by omega⟩
    unfold dovecoteref03_Same.l0
    rw [if_neg (by omega)]
    exact ⟨_, rfl⟩
  | succ d ih =>
    intro i k hi he hl hk
    obtain ⟨k, rfl⟩ : ∃ j, k = j + 1 := ⟨k - 1, by omega⟩
    unfold dovecoteref03_Same.l0
    rw [if_pos (by omega), if_pos (by omega), if_pos (by omega)]
    split
    · rw [show wrap64 ((i : Int) + 1) = ((i + 1 : Nat) : Int) by unfold wrap64; omega]
      exact ih (i + 1) k (by omega) he hl (by omega)
    · exact ⟨_, rfl⟩
theorem same_tells (a b : List ByteArray) (ha : a.length ≤ 1000000) (A0 A1 : Option Addr) (c0 c1 : Nat) (w : World) (h0 : Kd.string.C w A0 a.length a) (hc0 : a.length ≤ c0) (h1 : Kd.string.C w A1 b.length b) (hc1 : b.length ≤ c1) :
    Calls Try.prog 15 #[.slice A0 a.length c0, .slice A1 b.length c1] w fun e w' => ∃ r, e = .returned (.bool r) ∧ (a = b → r = true) ∧ Drawn0 w w' := by
  by_cases he : a = b
  · subst he
    refine (same_calls a ha A0 A1 c0 c1 w h0 hc0 h1 hc1).mono ?_
    rintro e w' ⟨rfl, hd⟩
    exact ⟨true, rfl, fun _ => rfl, hd⟩
  · by_cases hl : a.length = b.length
    · obtain ⟨r, hr⟩ := same_any a b a.length 0 (a.length + 1) (by omega) hl ha (by omega)
      refine (dovecoteref03_Same.calls (a.length + 1) A0 c0 a A1 c1 b r w h0 hc0 h1 hc1 (by unfold dovecoteref03_Same.f; rw [if_pos (by omega)]; exact hr)).mono ?_
      rintro e w' ⟨rfl, hd⟩
      exact ⟨r, rfl, fun h => absurd h he, hd⟩
    · refine (dovecoteref03_Same.calls (a.length + 1) A0 c0 a A1 c1 b false w h0 hc0 h1 hc1 (by unfold dovecoteref03_Same.f; rw [if_neg (by omega)])).mono ?_
      rintro e w' ⟨rfl, hd⟩
      exact ⟨false, rfl, fun h => absurd h he, hd⟩

section
variable {w0 w : World} {g gl : Nat} {room l a ge : Int} {up d : Bool} {A : Nat → Ar}
/-- The drum, and the log where it is up. -/
structure KeepAt (w0 W : World) (g : Nat) (room : Int) (up : Bool) (gl : Nat) (l : Int) (d : Bool) (A : Nat → Ar) (a ge : Int) : Prop where
  b : Below w0.heap.size w0 W
  n : ∃ K V, IsD NoX w0 W g room l d A K V
  s : up = true → w0.heap.size ≤ gl ∧ ∃ K V, IsD (LX NoX gl g a ge) w0 W g room l d A K V
theorem KeepAt.nX (h : KeepAt w0 w g room up gl l d A a ge) : ∃ K V, IsD (TB w) w0 w g room l d A K V := by
  obtain ⟨K, V, hI⟩ := h.n
  exact ⟨K, V, hI.more fun k o hk => ⟨hk.1, TB_ok hk⟩⟩
theorem KeepAt.sX (h : KeepAt w0 w g room true gl l d A a ge) : ∃ K V, IsD (LX (TB w) gl g a ge) w0 w g room l d A K V := by
  obtain ⟨_, K, V, hI⟩ := h.s rfl
  exact ⟨K, V, hI.more fun k o hk => hk.elim (fun h => hI.hx k o (.inl h)) fun h => ⟨h.1, TB_ok h⟩⟩
theorem KeepAt.below {W : World} (h : KeepAt w0 w g room up gl l d A a ge) (hb : Below w.heap.size w W) : KeepAt w0 W g room up gl l d A a ge := by
  refine ⟨below_then h.b h.b.size hb, ?_, fun hu => ?_⟩
  · obtain ⟨K, V, hI⟩ := h.n
    exact ⟨K, V, hI.below hb⟩
  · obtain ⟨h1, K, V, hI⟩ := h.s hu
    exact ⟨h1, K, V, hI.below hb⟩
theorem keep_of_n {W1 W : World} {K : Nat → Nat} {V : Nat → Value} (hb : Below w0.heap.size w0 W) (h : IsD (TB W1) w0 W g room l d A K V) : KeepAt w0 W g room false gl l d A a ge ∧ Told W1 W :=
  ⟨⟨hb, ⟨K, V, h.more fun k o hk => hk.elim⟩, fun h => by cases h⟩, fun k o hk => (h.hx k o hk).1⟩
theorem keep_of_s {W1 W : World} {K : Nat → Nat} {V : Nat → Value} (hgl : w0.heap.size ≤ gl) (hb : Below w0.heap.size w0 W) (h : IsD (LX (TB W1) gl g a ge) w0 W g room l d A K V) : KeepAt w0 W g room true gl l d A a ge ∧ Told W1 W :=
  ⟨⟨hb, ⟨K, V, h.more fun k o hk => hk.elim⟩, fun _ => ⟨hgl, K, V, h.more fun k o hk => hk.elim (fun hk => h.hx k o (.inl hk)) fun hk => hk.elim⟩⟩, fun k o hk => (h.hx k o (.inr hk)).1⟩
/-- What the log may hold behind a fall: `cand`; where the drum isn't down, just that. -/
def Kq (w0 W : World) (g : Nat) (room : Int) (up d : Bool) (gl : Nat) (cand : List (List ByteArray)) (G : Int) : Prop :=
  ∃ (l : Int) (A : Nat → Ar) (a ge : Int), KeepAt w0 W g room up gl l d A a ge ∧ Fit room l A ∧ ((d = false ∧ ∃ (ar : Nat) (rec : List ByteArray), a = ar ∧ Up A ar ge rec ∧ cand = [rec] ∧ ge ≤ G) ∨ (d = true ∧ Dn room A G cand))
variable {cand : List (List ByteArray)} {G : Int}
theorem Kq.b (h : Kq w0 w g room up d gl cand G) : Below w0.heap.size w0 w := by
  obtain ⟨l, A, a, ge, h, _⟩ := h
  exact h.b
theorem Kq.below {W : World} (h : Kq w0 w g room up d gl cand G) (hb : Below w.heap.size w W) : Kq w0 W g room up d gl cand G := by
  obtain ⟨l, A, a, ge, h, r⟩ := h
  exact ⟨l, A, a, ge, h.below hb, r⟩
theorem Kq.drop (h : Kq w0 w g room up true gl cand G) : Kq w0 w g room false true gl cand G := by
  obtain ⟨l, A, a, ge, h, hF, h2⟩ := h
  exact ⟨l, A, a, ge, ⟨h.b, h.n, fun h => by cases h⟩, hF, h2⟩
theorem Kq.more {G' : Int} (h : Kq w0 w g room up d gl cand G) (hG : G ≤ G') : Kq w0 w g room up d gl cand G' := by
  obtain ⟨l, A, a, ge, h, hF, h2⟩ := h
  refine ⟨l, A, a, ge, h, hF, ?_⟩
  rcases h2 with ⟨hd, ar, rec, h1, h2, h3, h4⟩ | ⟨hd, h2⟩
  · exact .inl ⟨hd, ar, rec, h1, h2, h3, Int.le_trans h4 hG⟩
  · exact .inr ⟨hd, h2.more hG fun x hx => hx⟩
/-- Only the list of lists has been written. -/
theorem Kq.keepRow {W : World} {base : Nat} {v : Value} {xs : List (List ByteArray)} (h : Kq w0 w g room up d gl cand G) (hR : Kd.R kT 30 w base (fun _ => True) v xs) (hg : w.grownBy W v.ownBlock) (hB : Below w0.heap.size w0 W) : Kq w0 W g room up d gl cand G := by
  obtain ⟨l, A, a, ge, h, r⟩ := h
  obtain ⟨a1, cs, ho, a3⟩ := hR
  refine ⟨l, A, a, ge, ⟨hB, ?_, fun hu => ?_⟩, r⟩
  · obtain ⟨K, V, hI⟩ := h.n
    exact ⟨K, V, hI.keepRow ho (by decide) (by decide) (by decide) (fun k hk hne => hg.block k hk hne) fun k o hk => hk.elim⟩
  · obtain ⟨h1, K, V, hI⟩ := h.s hu
    refine ⟨h1, K, V, hI.keepRow ho (by decide) (by decide) (by decide) (fun k hk hne => hg.block k hk hne) fun k o hk => ?_⟩
    rcases hk with ⟨rfl, rfl⟩ | hk
    · exact fun he => row_ne' ho (LX.at hI) (by decide) k he.symm rfl
    · exact hk.elim
theorem lit_C {W : World} {b : Nat} {s : ByteArray} (h : W.heap[b]? = some (.cells #[.string s] 9 (0, 0))) : Kd.string.C W (some ⟨b, 0, none⟩) 1 [s] := by
  refine ⟨rfl, by decide, fun _ => ⟨_, rfl, fun j p hj => ?_⟩⟩
  have hj0 : j = 0 := by
    cases j with
    | zero => rfl
    | succ j => simp at hj
  subst hj0
  simp at hj
  subst hj
  refine ⟨[.string s], rfl, rfl, fun i u hi => ?_⟩
  have hi0 : i = 0 := by
    cases i with
    | zero => rfl
    | succ i => simp at hi
  subst hi0
  simp at hi
  subst hi
  exact (blk_cell h 0).trans rfl
theorem now_C {w wz W : World} {B : Option Addr} {n : Nat} {xs : List ByteArray} (h : Kd.string.C wz B n xs) (hb : Below wz.heap.size wz W) : ReadsRow (Kd.string.K w) Kd.string.sz W B n xs := Kd.C_below h hb
theorem lit_R {w W : World} {B : Option Addr} {n : Nat} {xs : List ByteArray} (h : Kd.string.C W B n xs) : ReadsRow (Kd.string.K w) Kd.string.sz W B n xs := h
theorem lit_new {W : World} {s : ByteArray} : Kd.string.C (W.alloc (.cells #[.string s] 9)) (some ⟨W.heap.size, 0, none⟩) 1 [s] := lit_C (heap_alloc_new W _)
theorem size_alloc1 (W : World) (o : Obj) : (W.alloc o).heap.size = W.heap.size + 1 := Array.size_push _
theorem lit_keepA {W w5 : World} {o : Obj} {s : ByteArray} {b : Nat} (hg : ((W.alloc o).alloc (.cells #[.string s] 9)).drew.grownBy w5 (Value.slice (some ⟨b, 0, none⟩) 0 0).ownBlock) (hb : b = W.heap.size) : Kd.string.C w5 (some ⟨W.heap.size + 1, 0, none⟩) 1 [s] := by
  subst hb
  have h1 : ((W.alloc o).alloc (.cells #[.string s] 9)).heap[W.heap.size + 1]? = some (.cells #[.string s] 9 (0, 0)) := by
    have h := heap_alloc_new (W.alloc o) (.cells #[.string s] 9)
    rw [size_alloc1] at h
    exact h
  refine lit_C ((hg.block _ (lt_of_at (W := (((W.alloc o).alloc (.cells #[.string s] 9)).drew)) h1) ?_).trans h1)
  intro h
  simp [Value.ownBlock] at h
theorem lit_keepB {W w5 : World} {o : Obj} {s : ByteArray} {b : Nat} (hg : ((W.alloc (.cells #[.string s] 9)).alloc o).drew.grownBy w5 (Value.slice (some ⟨b, 0, none⟩) 0 0).ownBlock) (hb : b = W.heap.size + 1) : Kd.string.C w5 (some ⟨W.heap.size, 0, none⟩) 1 [s] := by
  subst hb
  have h1 := heap_alloc_new W (.cells #[.string s] 9)
  have h2 : ((W.alloc (.cells #[.string s] 9)).alloc o).heap[W.heap.size]? = some (.cells #[.string s] 9 (0, 0)) := ((below_alloc (Below.refl _ _) o).block _ (lt_of_at h1)).trans h1
  refine lit_C ((hg.block _ (lt_of_at (W := (((W.alloc (.cells #[.string s] 9)).alloc o).drew)) h2) ?_).trans h2)
  intro h
  simp [Value.ownBlock] at h
/-- What an append or a renewal tells, and leaves. -/
def KStep (w0 w : World) (g : Nat) (room : Int) (up : Bool) (gl : Nat) (now : List ByteArray) (rest : List (List ByteArray)) (next : List ByteArray) (G : Int) (e : Ending) (w' : World) : Prop :=
  ∃ (code : Int) (d' : Bool) (cand' : List (List ByteArray)), e = .returned (.int .i64 code) ∧ Told w w' ∧ Kq w0 w' g room up d' gl cand' G ∧ (d' = false → up = true) ∧
    ((code = 0 ∧ cand' = [next]) ∨ (code = 11 ∧ cand' = (now :: rest) ++ [next]) ∨ (code ≠ 0 ∧ code ≠ 11 ∧ cand' = now :: rest))
theorem k_append (s : ByteArray) {now : List ByteArray} {rest : List (List ByteArray)} (h : Kq w0 w g room up (!up) gl (now :: rest) G) (hG : G ≤ 18446744073709551615) (hs : s.size ≤ 140737488355328) (hrm : room ≤ 1048576) :
    Calls Try.prog 11 #[ptrIf up gl, .string s] w (KStep w0 w g room up gl now rest (now ++ [s]) G) := by
  obtain ⟨l, A, a, ge, h, hF, h2⟩ := h
  cases up with
  | false =>
    rcases h2 with ⟨hd, _⟩ | ⟨hd, h2⟩
    · cases hd
    · refine (lappend_nil s w).mono ?_
      rintro e w' ⟨rfl, rfl⟩
      exact ⟨11, true, _, rfl, told_refl _, ⟨l, A, a, ge, h, hF, .inr ⟨rfl, h2.more (Int.le_refl _) fun x hx => List.mem_append_left _ hx⟩⟩, (fun h => by cases h), .inr (.inl ⟨rfl, rfl⟩)⟩
  | true =>
    replace h : KeepAt w0 w g room true gl l false A a ge := h
    rcases h2 with ⟨_, ar, rec, rfl, hU, hc, hge⟩ | ⟨hd, _⟩
    rotate_left
    · cases hd
    obtain ⟨rfl, rfl⟩ : now = rec ∧ rest = [] := by
      injection hc with h1 h2
      exact ⟨h1, h2⟩
    have hgl := (h.s rfl).1
    obtain ⟨K, V, hI⟩ := h.sX
    have hz := recF_size s
    have hfit := hF.used
    have hl := hF.left
    have h4 := hU.h4
    refine (lappend_calls s hI h.b hl ⟨by omega, by omega⟩ hs (fun _ => by omega) (by omega)).mono ?_
    have hf := appR_fit (down := false) hF (ar : Int) s
    rintro e w' ⟨rfl, ⟨K', V', hD⟩, hb⟩
    rcases append_law (room := room) hU (Int.le_trans hge hG) hl.1 s with ⟨_, h1⟩ | ⟨_, l', A', _, h1, hU', _⟩ | ⟨_, _, h1⟩ | ⟨_, l', A', h1, hDn⟩
    · rw [h1] at hD hf ⊢
      obtain ⟨k1, k2⟩ := keep_of_s hgl hb hD
      exact ⟨3, false, _, rfl, k2, ⟨_, _, _, _, k1, hf, .inl ⟨rfl, ar, now, rfl, hU, rfl, hge⟩⟩, fun _ => rfl, .inr (.inr ⟨by decide, by decide, rfl⟩)⟩
    · rw [h1] at hD hf ⊢
      obtain ⟨k1, k2⟩ := keep_of_s hgl hb hD
      exact ⟨0, false, _, rfl, k2, ⟨_, _, _, _, k1, hf, .inl ⟨rfl, ar, now ++ [s], rfl, hU', rfl, hge⟩⟩, fun _ => rfl, .inl ⟨rfl, rfl⟩⟩
    · rw [h1] at hD hf ⊢
      obtain ⟨k1, k2⟩ := keep_of_s hgl hb hD
      exact ⟨10, false, _, rfl, k2, ⟨_, _, _, _, k1, hf, .inl ⟨rfl, ar, now, rfl, hU, rfl, hge⟩⟩, fun _ => rfl, .inr (.inr ⟨by decide, by decide, rfl⟩)⟩
    · rw [h1] at hD hf ⊢
      obtain ⟨k1, k2⟩ := keep_of_s hgl hb hD
      exact ⟨11, true, _, rfl, k2, ⟨_, _, _, _, k1, hf, .inr ⟨rfl, hDn.more hge fun x hx => hx⟩⟩, (fun h => by cases h), .inr (.inl ⟨rfl, rfl⟩)⟩
theorem k_renew (R : Option Addr) (c : Nat) (rs : List ByteArray) (hC : Kd.string.C w0 R rs.length rs) (hc : rs.length ≤ c) {now : List ByteArray} {rest : List (List ByteArray)} (h : Kq w0 w g room up (!up) gl (now :: rest) G) (hG : G + 1 ≤ 18446744073709551615) (hl : rs.length ≤ 1000000) (hz : ∀ x ∈ rs, x.size ≤ 140737488355328) (hrm : room ≤ 1048576) :
    Calls Try.prog 12 #[ptrIf up gl, .slice R rs.length c] w (KStep w0 w g room up gl now rest rs (G + 1)) := by
  obtain ⟨l, A, a, ge, h, hF, h2⟩ := h
  cases up with
  | false =>
    rcases h2 with ⟨hd, _⟩ | ⟨hd, h2⟩
    · cases hd
    · refine (lrenew_nil R rs.length c w).mono ?_
      rintro e w' ⟨rfl, rfl⟩
      exact ⟨11, true, _, rfl, told_refl _, ⟨l, A, a, ge, h, hF, .inr ⟨rfl, h2.more (by omega) fun x hx => List.mem_append_left _ hx⟩⟩, (fun h => by cases h), .inr (.inl ⟨rfl, rfl⟩)⟩
  | true =>
    replace h : KeepAt w0 w g room true gl l false A a ge := h
    rcases h2 with ⟨_, ar, rec, rfl, hU, hc2, hge⟩ | ⟨hd, _⟩
    rotate_left
    · cases hd
    obtain ⟨rfl, rfl⟩ : now = rec ∧ rest = [] := by
      injection hc2 with h1 h2
      exact ⟨h1, h2⟩
    have hgl := (h.s rfl).1
    obtain ⟨K, V, hI⟩ := h.sX
    have hfit := hF.used
    have hlf := hF.left
    have h4 := hU.h4
    have hg0 := hU.g0
    have hY : ∀ k o, TB w k o → k ≠ gl := by
      rintro k o ⟨hk, cs, t, rfl, ht⟩
      refine blk_ty hk (LX.at hI) ?_
      rcases ht with rfl | rfl | rfl <;> decide
    refine (lrenew_calls R c rs (fun W hb _ => Kd.C_below hC hb) hc hY hgl hI h.b hF ⟨by omega, by omega⟩ hg0 (by omega) (fun hft => ?_) hrm (by omega) hz).mono ?_
    · have h2 := layB_size (genUp ge) (genUp_range ge).2 rs 16000 (allFit_small hft)
      have h3 : rs.length * (16000 + 15) ≤ 1000000 * (16000 + 15) := Nat.mul_le_mul_right _ hl
      omega
    have hf := renR_fit (down := false) hF (ar : Int) ge rs
    rintro e w' ⟨rfl, ⟨K', V', hD⟩, hb⟩
    rcases renew_law (room := room) hU (show ge + 1 ≤ 18446744073709551615 by omega) hlf.1 rs with ⟨_, h1⟩ | ⟨_, l', A', ar', _, h1, hU', _⟩ | ⟨_, _, l', A', _, h1, hU', _⟩ | ⟨_, l', A', a', g', h1, hDn⟩ | ⟨_, l', A', a', g', h1, hDn⟩
    · rw [h1] at hD hf ⊢
      obtain ⟨k1, k2⟩ := keep_of_s hgl hb hD
      exact ⟨3, false, _, rfl, k2, ⟨_, _, _, _, k1, hf, .inl ⟨rfl, ar, now, rfl, hU, rfl, by show ge ≤ G + 1; omega⟩⟩, fun _ => rfl, .inr (.inr ⟨by decide, by decide, rfl⟩)⟩
    · rw [h1] at hD hf ⊢
      obtain ⟨k1, k2⟩ := keep_of_s hgl hb hD
      exact ⟨0, false, _, rfl, k2, ⟨_, _, _, _, k1, hf, .inl ⟨rfl, ar', rs, rfl, hU', rfl, by show ge + 1 ≤ G + 1; omega⟩⟩, fun _ => rfl, .inl ⟨rfl, rfl⟩⟩
    · rw [h1] at hD hf ⊢
      obtain ⟨k1, k2⟩ := keep_of_s hgl hb hD
      exact ⟨10, false, _, rfl, k2, ⟨_, _, _, _, k1, hf, .inl ⟨rfl, ar, now, rfl, hU', rfl, by show ge ≤ G + 1; omega⟩⟩, fun _ => rfl, .inr (.inr ⟨by decide, by decide, rfl⟩)⟩
    · rw [h1] at hD hf ⊢
      obtain ⟨k1, k2⟩ := keep_of_s hgl hb hD
      exact ⟨10, true, _, rfl, k2, ⟨_, _, _, _, k1, hf, .inr ⟨rfl, hDn.more (by omega) fun x hx => hx⟩⟩, (fun h => by cases h), .inr (.inr ⟨by decide, by decide, rfl⟩)⟩
    · rw [h1] at hD hf ⊢
      obtain ⟨k1, k2⟩ := keep_of_s hgl hb hD
      exact ⟨11, true, _, rfl, k2, ⟨_, _, _, _, k1, hf, .inr ⟨rfl, hDn.more (by omega) fun x hx => hx⟩⟩, (fun h => by cases h), .inr (.inl ⟨rfl, rfl⟩)⟩
theorem k_fuel (n : Int) (hn : n ≤ 9223372036854775807) (h : Kq w0 w g room up d gl cand G) :
    Calls Try.prog 13 #[.pointer (some ⟨g, 0, none⟩), .int .i64 n] w fun e w' => e = .returned (.tuple #[]) ∧ Told w w' ∧ Kq w0 w' g room up d gl cand G := by
  obtain ⟨l, A, a, ge, h, hF, h2⟩ := h
  cases up with
  | false =>
    obtain ⟨K, V, hI⟩ := h.nX
    refine (fuel_calls n hI h.b).mono ?_
    rintro e w' ⟨rfl, hD, hb⟩
    obtain ⟨k1, k2⟩ := keep_of_n (gl := gl) (a := a) (ge := ge) hb hD
    exact ⟨rfl, k2, _, A, a, ge, k1, hF.fuel n hn, h2⟩
  | true =>
    obtain ⟨K, V, hI⟩ := h.sX
    refine (fuel_calls n hI h.b).mono ?_
    rintro e w' ⟨rfl, hD, hb⟩
    obtain ⟨k1, k2⟩ := keep_of_s (h.s rfl).1 hb hD
    exact ⟨rfl, k2, _, A, a, ge, k1, hF.fuel n hn, h2⟩
theorem k_down (h : Kq w0 w g room up d gl cand G) :
    Calls Try.prog 16 #[.pointer (some ⟨g, 0, none⟩)] w fun e w' => e = .returned (.bool d) ∧ w' = w := by
  obtain ⟨l, A, a, ge, h, hF, h2⟩ := h
  obtain ⟨K, V, hI⟩ := h.n
  exact down_calls hI
/-- The drum has fallen. -/
def Kf (w0 W : World) (g : Nat) (room : Int) (cand : List (List ByteArray)) (G : Int) : Prop :=
  ∃ (xs : List Int) (l : Int) (A : Nat → Ar) (K : Nat → Nat) (V : Nat → Value), IsD NoX w0 W g room (-1) false (fallTo xs A 4) K V ∧ Below w0.heap.size w0 W ∧ Fit room l A ∧ Dn room A G cand
theorem k_fall (xs : List Int) (R0 : Option Addr) (c0 : Nat) (hxl : xs.length ≤ c0) (h : Kq w0 w g room up d gl cand G) (hG : G ≤ 18446744073709551615) (hrm : room ≤ 1048576) (hr : ReadsInt w0 .i64 R0 xs.length xs) (hkf : ∀ ad, R0 = some ad → 0 < xs.length → ad.block < w0.heap.size) :
    Calls Try.prog 14 #[.pointer (some ⟨g, 0, none⟩), .slice R0 xs.length c0] w fun e w' => e = .returned (.tuple #[]) ∧ Told w w' ∧ Kf w0 w' g room cand G := by
  obtain ⟨l, A, a, ge, h, hF, h2⟩ := h
  obtain ⟨K, V, hI⟩ := h.nX
  have hr' : ReadsInt w .i64 R0 xs.length xs := by
    refine ⟨hr.1, hr.2.1, fun hn => ?_⟩
    obtain ⟨ad, e, hc⟩ := hr.2.2 hn
    refine ⟨ad, e, fun j hj => ?_⟩
    have hb : (ad.add j).block < w0.heap.size := by
      have := hkf ad e hn
      unfold Addr.add
      split <;> exact this
    exact (cell_of_heap (h.b.block _ hb)).trans (hc j hj)
  refine (log_fall xs R0 c0 hxl hI h.b hF hrm hr' hkf).mono ?_
  rintro e w' ⟨rfl, ⟨V', hD⟩, hb⟩
  refine ⟨rfl, fun k o hk => (hD.hx k o hk).1, xs, l, A, K, V', hD.more fun k o hk => hk.elim, hb, hF, ?_⟩
  rcases h2 with ⟨_, ar, rec, _, hU, rfl, hge⟩ | ⟨_, h2⟩
  · exact (hU.dn (by omega)).more hge fun x hx => hx
  · exact h2
theorem k_open (h : Kf w0 w g room cand G) (hrm : room ≤ 1048576) :
    Calls Try.prog 10 #[.pointer (some ⟨g, 0, none⟩)] w fun e w' => ∃ (gl : Nat) (v : Value) (rec : List ByteArray), e = .returned (.tuple #[.pointer (some ⟨gl, 0, none⟩), v, .int .i64 0]) ∧ Told w w' ∧ rec ∈ cand ∧ Kq w0 w' g room true false gl [rec] G ∧ Kd.R Kd.string 9 w' w0.heap.size (fun _ => True) v rec := by
  obtain ⟨xs, l, A, K, V, hI, hB, hF, hD⟩ := h
  refine (log_open (Y := TB w) (hI.more fun k o hk => ⟨hk.1, TB_ok hk⟩) hB hF hD hrm).mono ?_
  rintro e w' ⟨gl, v, A', ar', gen', rec', rfl, hgl, hc, hg, _, ⟨⟨K', V', hI'⟩, hB', hF', hU'⟩, hR⟩
  obtain ⟨k1, k2⟩ := keep_of_s (Nat.le_trans hB.size hgl) hB' hI'
  exact ⟨gl, v, rec', rfl, k2, hc, ⟨_, _, _, _, k1, hF', .inl ⟨rfl, ar', rec', rfl, hU', rfl, hg⟩⟩, hR⟩
end
end Go.Proofs.Ytccdmedhkbabpaa

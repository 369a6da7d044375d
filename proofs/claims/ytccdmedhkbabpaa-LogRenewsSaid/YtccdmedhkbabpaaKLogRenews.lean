/- The walk of LogRenews: a log that begins anew has just the records that it was begun with, and those behind. Condition: what the arguments' types demand. -/
import Derived.Test.YtccdmedhkbabpaaR4
import Derived.Test.YtccdmedhkbabpaaWGuard
import Derived.Deep.DeepCutAuto
set_option linter.unusedVariables false
set_option linter.unusedSimpArgs false
namespace Go.Proofs.Ytccdmedhkbabpaa
open Go.RowKit Go.Deep Go.Proofs.YtccdmedhkbabpaaW.PrintWords PRd PFr

abbrev kL : Kd (List ByteArray) := Kd.slice 9 Kd.string
theorem open_list {H : Type} {enc : TypeId × Value → H} {W : World} {base : Nat} {spare : Nat → Bool} {held : Bool} :
    ∀ n cs x, DataW.trod enc Try.prog W base spare held n 30 cs = some x → ∃ a : List ByteArray, kL.K W a cs ∧ QSlice QStr a x.1 := by
  intro n cs x h
  obtain ⟨A, g, a, q, w, r, z⟩ := open_kd (k := Kd.string) (Q := QStr) Try.underlying30 (by kernel_rfl) (open_str Try.underlying9) h
  exact ⟨a, ⟨A, g, q, w, r⟩, z⟩
set_option maxRecDepth 100000 in
theorem lists_open {H : Type} {enc : TypeId × Value → H} (W : World) (v0 : Value) (d0 : DataW H) (p0 : List MemPlace)
    (h0 : DataW.Trod enc Try.prog W 0 (fun _ => true) true 33 v0 d0 p0) {base : Nat} (u0 : Value.okWide Try.prog W .any base 33 v0) (z0 : ∀ n ∈ DataW.weights Try.prog 33 d0, n ≤ reachBytes) :
    ∃ (A : Option Addr) (c : Nat) (l : List (List ByteArray)), v0 = .slice A l.length c ∧ l.length ≤ c ∧ kL.C W A l.length l ∧ (∀ x ∈ l, ∀ y ∈ x, y.size ≤ 140737488355328) ∧ l.length ≤ 9223372036854775807 := by
  obtain ⟨a, len, cap, rfl⟩ := WideShapes.okWide_slice Try.underlying33 u0
  obtain ⟨fuel, hf⟩ := h0
  obtain ⟨A, c, l, hcs, hlc, hC, hQ⟩ := open_kd (k := kL) (Q := fun a d => QSlice QStr a d) Try.underlying33 (by kernel_rfl) open_list hf
  simp only [Value.cells, List.cons.injEq, Value.slice.injEq, and_true] at hcs
  obtain ⟨rfl, rfl, rfl⟩ := hcs
  refine ⟨a, cap, l, rfl, hlc, hC, ?_, hC.2.1⟩
  intro x hx
  rcases hQ with ⟨_, rfl⟩ | ⟨ds, sp, rfl, hl, hq⟩
  · cases hx
  · obtain ⟨i, hi, rfl⟩ := List.getElem_of_mem hx
    have hid : i < ds.length := by omega
    have hz := weights_at Try.underlying33 z0 ds[i] (List.getElem_mem hid)
    exact fun y hy => Nat.le_trans (strs_reach Try.underlying30 (hq i hi hid) hz y hy) reach_le
theorem list_at {w wr : World} {R : Option Addr} {l : List (List ByteArray)} (hC : kL.C w R l.length l) (hB : Below w.heap.size w wr) (i : Nat) (hi : i < l.length) :
    ∃ ad B c, R = some ad ∧ wr.cell? (ad.add i) = some (.slice B l[i].length c) ∧ l[i].length ≤ c ∧ Kd.string.C w B l[i].length l[i] := by
  obtain ⟨ad, cs, e, _, hK, hc0⟩ := Kd.C_get hC [] (i : Int) (by omega) (by omega)
  have hx : l.getD (i : Int).toNat [] = l[i] := by
    rw [List.getD_eq_getElem?_getD, Int.toNat_natCast, List.getElem?_eq_getElem hi]; rfl
  rw [hx] at hK
  rw [Int.toNat_natCast] at hc0
  obtain ⟨B, c, rfl, hl, hC1⟩ := hK
  refine ⟨ad, B, c, e, cell_below hB ?_, hl, hC1⟩
  have h0 := hc0 0 _ rfl
  rw [show i * kL.sz + 0 = i by show i * 1 + 0 = i; omega] at h0
  exact h0
theorem layB_len (ge : Int) (hg : ge ≤ 18446744073709551615) (rs : List ByteArray) : (layB ge rs).size ≤ 40 + textsLen rs + 15 * rs.length := by
  have key : ∀ l : List ByteArray, (frs (l.map cP)).size ≤ textsLen l + 15 * l.length := by
    intro l
    induction l with
    | nil => exact Nat.zero_le _
    | cons x l ih =>
      have h3 := wrp_size (cP x)
      have h4 : (cP x).size = 1 + x.size := tag_size 67 x
      have h5 : textsLen (x :: l) = x.size + textsLen l := by unfold textsLen; rw [List.map_cons, List.sum_cons]
      show ((wrp (cP x)).1 ++ frs (l.map cP)).size ≤ _
      rw [ByteArray.size_append, List.length_cons, h5]
      omega
  have e : layB ge rs = (wrp (gP ge)).1 ++ (frs (rs.map cP) ++ (wrp eP).1) := by
    unfold layB layTo
    rw [List.take_length, List.cons_append]
    show (wrp (gP ge)).1 ++ frs (rs.map cP ++ [eP]) = _
    rw [frs_snoc]
  rw [e, ByteArray.size_append, ByteArray.size_append]
  have h1 := key rs
  have h2 := wrp_size (gP ge)
  have h3 := wrp_size eP
  have h4 := gP_size ge hg
  have h5 : eP.size = 1 := rfl
  omega
theorem texts_le (l : List ByteArray) (m : Nat) (h : ∀ x ∈ l, x.size ≤ m) : textsLen l ≤ l.length * m := by
  unfold textsLen
  induction l with
  | nil => exact Nat.zero_le _
  | cons a l ih =>
    have h1 := ih fun x hx => h x (List.mem_cons_of_mem _ hx)
    have h2 := h a (List.mem_cons_self ..)
    rw [List.map_cons, List.sum_cons, List.length_cons, Nat.succ_mul]
    omega
theorem fit100 {x : List ByteArray} (h : ∀ y ∈ x, y.size ≤ 100) : allFit x = true := by
  unfold allFit
  rw [List.all_eq_true]
  intro z hz
  exact decide_eq_true (by have := h z hz; omega)
theorem R_lit_nil (W : World) (base : Nat) (hb : base ≤ W.heap.size) : Kd.R Kd.string 9 (W.alloc (.cells #[] 9)) base (fun _ => True) (.slice (some ⟨W.heap.size, 0, none⟩) 0 0) ([] : List ByteArray) := by
  refine ⟨fun _ _ => trivial, [], ?_, ⟨rfl, fun j p hj => by cases hj⟩⟩
  have h2 := World.ownsRow_lit (base := base) (e := 9) (size := 1) W #[] 0 hb (by decide) rfl
  exact h2
theorem used_one {Y : Nat → Obj → Prop} {w0 w : World} {g gl ar : Nat} {room left gen : Int} {A : Nat → Ar} {rec : List ByteArray} (h : LogAt Y w0 w g gl room left A ar gen rec) (hrm : room ≤ 1048576) : Calls Try.prog 18 #[.pointer (some ⟨g, 0, none⟩)] w fun e w' => e = .returned (.int .i64 (sz (A ar) : Int)) ∧ LogAt Y w0 w' g gl room left A ar gen rec := by
  have h' := h
  obtain ⟨⟨K, V, hI⟩, hB, hF, hU⟩ := h
  have e1 := usedTo_one hU.h4 hU.no
  have hs := hF.sz ar hU.h4
  refine (used_calls hI hB (by omega)).mono ?_
  rintro e w' ⟨rfl, ⟨m, rfl⟩⟩
  rw [e1]
  exact ⟨rfl, h'.below (pw_below_drewN (Below.refl _ _) m)⟩
set_option maxRecDepth 100000 in
set_option maxHeartbeats 32000000 in
theorem renews_calls (R : Option Addr) (cap : Nat) (l : List (List ByteArray)) (more : ByteArray) (hlc : l.length ≤ cap) (hms : more.size ≤ 140737488355328) (hsz : ∀ x ∈ l, ∀ y ∈ x, y.size ≤ 140737488355328) (hll : l.length ≤ 9223372036854775807) (w : World) (hC : kL.C w R l.length l) :
    Calls Try.prog 5 #[.slice R l.length cap, .string more] w fun e w' => e = .returned (.bool true) ∧ Below w.heap.size w w' := by
  have HA := Lib.hid (awake_calls w)
  have HC := Lib.hid hC
  have HSZ := Lib.hid hsz
  clear hC hsz
  go_enter Try.func5, Try.ntmps5
  go_wp2_with fail
  refine HA.out.mono ?_
  rintro e w0 ⟨rfl, hB⟩
  have HB0 := Lib.hid hB
  clear hB HA
  rcases (show 20 < (l.length : Int) ∨ ((l.length : Int) ≤ 20 ∧ 100 < (more.size : Int)) ∨ ((l.length : Int) ≤ 20 ∧ (more.size : Int) ≤ 100) by omega) with h | ⟨h1, h2⟩ | ⟨h1, h2⟩
  · go_wp2_with fail
    go_ret
    exact ⟨rfl, HB0.out⟩
  · go_wp2_with fail
    go_ret
    exact ⟨rfl, HB0.out⟩
  · have HRS := Lib.hid (recF_size more)
    go_wp2_with fail
    refine (drum_new 20000 (by omega) (by omega) w w0 HB0.out).mono ?_
    rintro e w1 ⟨g, rfl, ⟨K1, V1, hI1⟩, hB1⟩
    have HI1 := Lib.hid hI1
    have HB1 := Lib.hid hB1
    clear hI1 hB1 HB0
    go_wp2_with fail
    refine (log_new HI1.out HB1.out (by omega) (by omega)).mono ?_
    rintro e w2 ⟨gl, v2, A2, rfl, hgl, hL, hz, hR⟩
    have HL2 := Lib.hid hL
    have HGL := Lib.hid (Nat.le_trans HB1.out.size hgl)
    have HZ2 := Lib.hid hz
    obtain ⟨R2, c2, rfl⟩ := Kd.R_slice hR
    clear hL hz hR hgl HI1 HB1
    go_wp2_with fail
    go_loopg [10, 42] (l.length + 1) (fun gk v10 v42 wr => ∃ (k ar : Nat) (B : Option Addr) (c : Nat) (A : Nat → Ar) (rec : List ByteArray), k ≤ l.length ∧ v10 = .slice B rec.length c ∧ v42 = .int .i64 (k : Int) ∧ rec.length ≤ 5 ∧ rec.length ≤ c ∧ Aside0 (k + gk = l.length + 1) ∧
      Aside0 (Kd.string.C w B rec.length rec) ∧ Aside0 (sz (A ar) ≤ 700) ∧ Aside0 (LogAt NoX w wr g gl 20000 (-1) A ar (1 + (k : Int)) rec))
    case atStart => exact ⟨0, 0, none, 0, A2, [], Nat.zero_le _, rfl, rfl, by decide, Nat.le_refl _, ⟨by omega⟩, ⟨⟨rfl, by simp, fun h => absurd h (Nat.lt_irrefl 0)⟩⟩, ⟨by rw [HZ2.out]; have := layB_nil 1 (by decide); omega⟩, ⟨HL2.out⟩⟩
    case round =>
      obtain ⟨wo, rfl⟩ : ∃ wo : World, wo = wr := ⟨_, rfl⟩
      obtain ⟨gout, rfl⟩ : ∃ gout : Nat, gout = gk := ⟨_, rfl⟩
      obtain ⟨k, ar, B, c, A, rec, hk, rfl, rfl, hr5, hrc, ⟨hg⟩, ⟨hrC⟩, ⟨hsA⟩, ⟨hL⟩⟩ := hrel
      have HGK := Lib.hid hg
      have HRC := Lib.hid hrC
      have HSA := Lib.hid hsA
      have HL := Lib.hid hL
      clear hg hrC hsA hL HL2 HZ2
      rcases (show k < l.length ∨ k = l.length by omega) with hlt | hlt
      · obtain ⟨ad, X, cx, rfl, k0, hxc, hxC⟩ := list_at HC.out HL.out.b k hlt
        have hxs := HSZ.out l[k] (List.getElem_mem hlt)
        obtain ⟨x, hx⟩ : ∃ x, x = l[k] := ⟨_, rfl⟩
        rw [← hx] at k0 hxc hxC hxs
        clear hx
        have HXC := Lib.hid hxC
        have HXS := Lib.hid hxs
        have hxl := hxC.2.1
        clear hxC hxs
        go_wp2_with fail
        go_loopg [13, 48] (x.length + 1) (fun gi v13 v48 wr => ∃ (j m : Nat), j ≤ x.length ∧ v13 = .int .i64 (m : Int) ∧ v48 = .int .i64 (j : Int) ∧ m ≤ 600 ∧ Aside0 (m ≤ 120 * j) ∧ Aside0 (j + gi = x.length + 1) ∧ Aside0 (m = textsLen (x.take j) + 20 * j) ∧ Aside0 (∀ y ∈ x.take j, y.size ≤ 100) ∧ Aside0 (0 < j → x.length ≤ 5) ∧ Aside0 (wo = wr))
        case atStart => exact ⟨0, 0, Nat.zero_le _, rfl, rfl, Nat.zero_le _, ⟨Nat.zero_le _⟩, ⟨by omega⟩, ⟨rfl⟩, ⟨by simp⟩, ⟨fun h => absurd h (Nat.lt_irrefl 0)⟩, ⟨rfl⟩⟩
        case round =>
          obtain ⟨j, m, hj, rfl, rfl, hm, ⟨hm2⟩, ⟨hgi⟩, ⟨hmm⟩, ⟨h100⟩, ⟨h5⟩, ⟨rfl⟩⟩ := hrel
          have HGI := Lib.hid hgi
          have HM2 := Lib.hid hm2
          have HMM := Lib.hid hmm
          have H100 := Lib.hid h100
          have H5 := Lib.hid h5
          clear hgi hmm h100 h5 hm2
          rcases (show j < x.length ∨ j = x.length by omega) with hjl | hjl
          · obtain ⟨ad2, rfl, q0⟩ := Kd.at_string (Kd.C_below HXC.out HL.out.b) (j : Int) (by omega) (by omega)
            have hy : rdOf ByteArray.empty x (j : Int) = x[j] := by unfold rdOf; rw [List.getD_eq_getElem?_getD, Int.toNat_natCast, List.getElem?_eq_getElem hjl]; rfl
            rw [hy] at q0
            simp only [Int.toNat_natCast] at q0
            have hys := HXS.out x[j] (List.getElem_mem hjl)
            have HTT := Lib.hid (textsLen_take x j hjl)
            have HTK := Lib.hid (List.take_succ_eq_append_getElem (l := x) (i := j) hjl)
            obtain ⟨y, hyy⟩ : ∃ y, y = x[j] := ⟨_, rfl⟩
            rw [← hyy] at q0 hys HTT HTK
            clear hy hyy
            have HOB := Lib.hid HL.out.b
            rcases (show 100 < (y.size : Int) ∨ ((y.size : Int) ≤ 100 ∧ 5 < (x.length : Int)) ∨ ((y.size : Int) ≤ 100 ∧ (x.length : Int) ≤ 5) by omega) with hc | ⟨hc, hd⟩ | ⟨hc, hd⟩
            · go_wp2_with fail
              go_ret
              exact ⟨rfl, HOB.out⟩
            · go_wp2_with fail
              go_ret
              exact ⟨rfl, HOB.out⟩
            · have hm3 : m + y.size + 20 ≤ 600 := by have := HM2.out; omega
              go_wp2_with fail
              go_roundg (gk - 1)
              case measure => have := HGI.out; omega
              case rel => exact ⟨j + 1, m + y.size + 20, by omega, by go_num, by go_num, hm3, ⟨by have := HM2.out; omega⟩, ⟨by have := HGI.out; omega⟩, ⟨by rw [HTT.out, HMM.out]; omega⟩, ⟨fun z hz => by
                rw [HTK.out] at hz
                rcases List.mem_append.1 hz with hz | hz
                · exact H100.out z hz
                · rw [List.mem_singleton.1 hz]; omega⟩, ⟨fun _ => by omega⟩, ⟨rfl⟩⟩
          · subst hjl
            have hx5 : x.length ≤ 5 := by have := H5.out; omega
            have HX100 : Hid (∀ y ∈ x, y.size ≤ 100) := Lib.hid (by have := H100.out; rwa [List.take_length] at this)
            have HMS : Hid (m = textsLen x + 20 * x.length) := Lib.hid (by have := HMM.out; rwa [List.take_length] at this)
            have HTL := Lib.hid (texts_le x 100 HX100.out)
            have HFT := Lib.hid (fit100 HX100.out)
            clear H100 HMM HM2 H5
            go_wp2_with fail
            refine (log_append2 more HL.out (by omega) (by omega) (by decide)).mono ?_
            rintro e w3 ⟨code, A3, rfl, (⟨rfl, hL3, hz3⟩ | ⟨rfl, hL3, rfl, hfull⟩)⟩
            rotate_left
            · exfalso
              have a1 := HRS.out
              have a2 := HSA.out
              omega
            have HL3 := Lib.hid hL3
            have hz4 : sz (A3 ar) ≤ 900 := by
              have a1 := HRS.out
              have a2 := HSA.out
              omega
            have HZ3 := Lib.hid hz4
            clear hL3 hz3 hz4 HL HSA
            go_wp2_with fail
            have HLB := Lib.hid (layB_len (1 + (k : Int) + 1) (by omega) x)
            refine (log_renew X cx x (fun W hb _ => Kd.C_below HXC.out hb) hxc (fun k o hk => hk.elim) HGL.out HL3.out (by omega) HFT.out (by omega) (by decide)).mono ?_
            rintro e w4 ⟨code, A4, rfl, (⟨rfl, ar4, hL4, hz4⟩ | ⟨rfl, hL4, _, hfull⟩)⟩
            rotate_left
            · exfalso
              have a1 := HLB.out
              have a2 := HZ3.out
              have a3 := HTL.out
              omega
            have e1 : 1 + (k : Int) + 1 = 1 + ((k + 1 : Nat) : Int) := by omega
            rw [e1] at hL4 hz4
            rw [e1] at HLB
            have HL4 := Lib.hid hL4
            obtain ⟨z, hz⟩ : ∃ z, z = sz (A4 ar4) := ⟨_, rfl⟩
            have hzm : z ≤ m + 40 := by
              have a1 := HLB.out
              have a3 := HMS.out
              omega
            have hz7 : z ≤ 700 := by omega
            have HZE := Lib.hid hz
            clear hL4 hz4 hz e1 HL3 HZ3 HLB
            go_wp2_with fail
            refine (log_size HL4.out).mono ?_
            rintro e w5 ⟨rfl, hL5⟩
            have HL5 := Lib.hid hL5
            rw [← HZE.out]
            clear hL5 HL4
            go_wp2_with fail
            refine (used_one HL5.out (by decide)).mono ?_
            rintro e w6 ⟨rfl, hL6⟩
            have HL6 := Lib.hid hL6
            rw [← HZE.out]
            clear hL6 HL5
            go_wp2_with fail
            refine (log_size HL6.out).mono ?_
            rintro e w7 ⟨rfl, hL7⟩
            have HL7 := Lib.hid hL7
            rw [← HZE.out]
            clear hL7 HL6
            go_wp2_with fail
            go_roundg (gout - 1)
            case measure => have := HGK.out; omega
            case rel => exact ⟨k + 1, ar4, X, cx, A4, x, by omega, rfl, by go_num, hx5, hxc, ⟨by have := HGK.out; omega⟩, ⟨HXC.out⟩, ⟨by have := HZE.out; omega⟩, ⟨HL7.out⟩⟩
      · subst hlt
        go_wp2_with fail
        obtain ⟨⟨K3, V3, hI3⟩, hB3, hF3, hU3⟩ := HL.out
        refine (lgen_calls hI3).mono ?_
        rintro e w3 ⟨rfl, rfl⟩
        clear hI3 hB3 hF3 hU3
        go_wp2_with fail
        refine (log_append2 more HL.out (by omega) (by omega) (by decide)).mono ?_
        rintro e w4 ⟨code, A4, rfl, (⟨rfl, hL4, hz4⟩ | ⟨rfl, hL4, rfl, hfull⟩)⟩
        rotate_left
        · exfalso
          have a1 := HRS.out
          have a2 := HSA.out
          omega
        obtain ⟨rec2, hrec2⟩ : ∃ r, r = rec ++ [more] := ⟨_, rfl⟩
        have hr26 : rec2.length ≤ 6 := by rw [hrec2, List.length_append]; simp; omega
        have HRE := Lib.hid hrec2
        rw [← hrec2] at hL4
        clear hrec2
        have HL4 := Lib.hid hL4
        clear hL4 hz4 HL HSA
        go_wp2_with fail
        obtain ⟨⟨K4, V4, hI4⟩, hB4, hF4, hU4⟩ := HL4.out
        have HF4 := Lib.hid hF4
        have HU4 := Lib.hid hU4
        refine (log_fall [] none 0 (Nat.le_refl _) hI4 hB4 hF4 (by decide) (reads_none _) (fun ad h => by cases h)).mono ?_
        rintro e w5 ⟨rfl, ⟨V5, hI5⟩, hB5⟩
        have HI5 := Lib.hid hI5
        have HB5 := Lib.hid hB5
        clear hI4 hB4 hF4 hU4 hI5 hB5 HL4
        go_wp2_with fail
        refine (log_reopen HI5.out HB5.out HF4.out HU4.out (by omega) (by decide)).mono ?_
        rintro e w6 ⟨gl2, v6, A6, rfl, hgl2, hL6, _, hR6⟩
        have HL6 := Lib.hid hL6
        have HR6 := Lib.hid hR6
        obtain ⟨A9, c9, rfl⟩ := Kd.R_slice hR6
        clear hL6 hR6 hgl2 HI5 HB5 HF4 HU4
        go_wp2_with fail
        obtain ⟨⟨K6, V6, hI6⟩, hB6, hF6, hU6⟩ := HL6.out
        refine (lgen_calls hI6).mono ?_
        rintro e w7 ⟨rfl, rfl⟩
        clear hI6 hB6 hF6 hU6
        go_wp2_with fail
        obtain ⟨⟨K6, V6, hI6⟩, hB6, hF6, hU6⟩ := HL6.out
        refine (lgen_calls (hI6.more fun k o hk => hI6.hx k o (.inr hk))).mono ?_
        rintro e w8 ⟨rfl, rfl⟩
        have HB6 := Lib.hid hB6
        clear hI6 hB6 hF6 hU6 HL6
        go_wp2_with ((with_reducible refine gate_builtin (b := .append) (xs := #[.tmp 121, .tmp 122]) rfl ?_); refine gate_guard (by rfl) ?_; dsimp only; at_builtin; refine halt_ ?_)
        refine Lib.hid ?_
        refine Kd.R_append_rows Kd.string (Rr := Kd.string.K w) (w0 := w8) w8.heap.size rfl (.tmp 121) (.tmp 122) 30 9 (.string ⟨#[]⟩) 16 rfl Try.underlying30 info_str rfl (by decide) (by omega) (.slice (some ⟨_, 0, none⟩) 0 0) [] rec B rec.length c (fun _ => True) (fun _ => False) rfl rfl ?aO ?aR ?aK (fun _ hk => hk.elim) (fun _ _ => trivial) ?aB ?aS ?aL ?_
        case aR => exact Kd.C_below HRC.out (below_alloc HB6.out _)
        case aK => exact (fun _ _ h => h)
        case aO => exact R_lit_nil _ _ (Nat.le_refl _)
        case aB => exact below_alloc (Below.refl _ _) _
        case aS => exact (below_alloc (Below.refl _ _) _).size
        case aL => show (0 + rec.length) * 16 ≤ 140737488355328; omega
        intro v1 w9 ho hb hg hat
        have HR9 := Lib.hid ho
        have HB9 := Lib.hid hb
        clear ho hb hg hat
        go_wp2_with ((with_reducible refine gate_builtin (b := .append) (xs := #[.tmp 123, .tmp 125]) rfl ?_); refine gate_guard (by rfl) ?_; dsimp only; at_builtin; refine halt_ ?_)
        refine Lib.hid ?_
        refine Kd.R_append Kd.string (w0 := w8) w8.heap.size rfl (.tmp 123) (.tmp 125) 30 9 (.string ⟨#[]⟩) 16 rfl Try.underlying30 info_str rfl (by decide) (by omega) v1 rec more [.string more] (fun _ => True) (fun _ => False) rfl rfl ?aP (fun _ hk => hk.elim) ?aF ?aO ?aB ?aS ?aL ?_
        case aP => exact rfl
        case aB => exact HB9.out
        case aF => exact (fun _ _ => trivial)
        case aO => exact HR9.out
        case aS => exact HB9.out.size
        case aL => omega
        intro v2 w10 ho hb hg hat
        rw [← HRE.out] at ho
        obtain ⟨A10, c10, rfl⟩ := Kd.R_slice ho
        have HR10 := Lib.hid (Kd.R_reads' ho)
        have HB10 := Lib.hid (below_then HB6.out HB6.out.size hb)
        have HC6 := Lib.hid (Kd.C_below (Kd.R_reads' HR6.out).2.2 hb)
        have HC7 := Lib.hid (Kd.R_reads' HR6.out).2.1
        clear ho hb hg hat HR9 HB9 HR6 HB6
        go_wp2_with fail
        refine (same_calls rec2 (by omega) _ _ _ _ w10 HC6.out HC7.out HR10.out.2.2 HR10.out.2.1).mono ?_
        rintro e w11 ⟨rfl, ⟨m11, rfl⟩⟩
        go_wp2_with fail
        go_ret
        exact ⟨rfl, pw_below_drewN HB10.out m11⟩
set_option maxRecDepth 100000 in
theorem walk_LogRenews {H : Type} {enc : TypeId × Value → H} (W : World) (v0 : Value) (d0 : DataW H) (p0 : List MemPlace) (a1 : ByteArray)
    (h0 : DataW.Trod enc Try.prog W 0 (fun _ => true) true 33 v0 d0 p0) {base : Nat} (u0 : Value.okWide Try.prog W .any base 33 v0) (z0 : ∀ n ∈ DataW.weights Try.prog 33 d0, n ≤ reachBytes) (w1 : a1.size ≤ 140737488351232) :
    Calls Try.prog 5 #[v0, .string a1] W fun e W' => e = .returned (.bool true) ∧ Below W.heap.size W W' := by
  obtain ⟨A, c, l, rfl, hl, hC, hok, hll⟩ := lists_open W v0 d0 p0 h0 u0 z0
  exact renews_calls A c l a1 hl (by omega) hok hll W hC
end Go.Proofs.Ytccdmedhkbabpaa

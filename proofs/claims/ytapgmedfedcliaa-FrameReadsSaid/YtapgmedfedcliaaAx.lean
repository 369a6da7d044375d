/- What is framed is read, and the other way round; what else is read; the look ahead of each of the frame's laws (awake) answers true; frame.Scan. Conditions: those that each theorem names. -/
import Derived.Test.YtapgmedfedcliaaPLax
import Derived.Test.YtapgmedfedcliaaSc
set_option linter.unusedVariables false
set_option linter.unusedSimpArgs false
namespace Go.Proofs.Ytapgmedfedcliaa
open Go.RowKit Go.Proofs.YtapgmedfedcliaaW.PrintWords PRd PFr PLa


theorem extract_mid (a b c : ByteArray) (n m : Nat) (hn : n = a.size) (hm : m = a.size + b.size) : (a ++ b ++ c).extract n m = b := by
  apply bytes_ext
  rw [bytesOf_extract, bytesOf_append, List.take_left' (by rw [bytesOf_length, ByteArray.size_append, hm]), bytesOf_append, List.drop_left' (by rw [bytesOf_length, hn])]
theorem head_split (s : ByteArray) (h : s.size ≠ 0) : s = strOfNums [bt s 0] ++ s.extract 1 s.size := by
  have hb0 : bt s 0 = (bytesOf s).getD 0 0 := bt_get s 0
  have hr := bt_range s 0
  have hlen := bytesOf_length s
  apply bytes_ext
  rw [bytesOf_append, bytesOf_extract, ← hlen, List.take_length, bytesOf_nums _ (by intro x hx; simp at hx; omega), hb0]
  cases hl : bytesOf s with
  | nil => rw [hl] at hlen; simp at hlen; omega
  | cons a l => simp
theorem mark_size : (strOfNums ([215] : List Int)).size = 1 := rfl
theorem frm_size (p : ByteArray) : (frm p).size = 1 + (encB p.size).size + p.size + 4 := by
  unfold frm encT
  rw [ByteArray.size_append, ByteArray.size_append, ByteArray.size_append, four_size, mark_size]; omega
theorem hd_frm (p t : ByteArray) (hp : p.size ≤ 16384) : hd (frm p ++ t) = ((p.size : Int), p ++ (four (sumN (encT p)) ++ t), 0) := by
  have e : frm p ++ t = strOfNums [215] ++ (encB p.size ++ (p ++ (four (sumN (encT p)) ++ t))) := by
    unfold frm encT
    simp only [ByteArray.append_assoc]
  unfold hd
  rw [e, extract_right _ _ _ _ mark_size.symm (by rw [ByteArray.size_append])]
  exact rdNum_enc _ _ _ (by omega) (by omega) (by omega)
theorem bt_frm (p t : ByteArray) : bt (frm p ++ t) 0 = 215 := by
  have := bt_get (frm p ++ t) 0
  refine this.trans ?_
  unfold frm
  simp only [ByteArray.append_assoc]
  rw [bytesOf_append]
  rfl
/-- What was framed is read. -/
theorem nxt_frm (p t : ByteArray) (hp : p.size ≤ 16384) : nxt (frm p ++ t) = (p, ((frm p).size : Int), 0) := by
  have hh := hd_frm p t hp
  have hs := frm_size p
  have hat : atOf (frm p ++ t) = 1 + (encB p.size).size := by
    unfold atOf
    rw [hh, ByteArray.size_append]
    simp only [ByteArray.size_append, four_size]
    omega
  have e1 : (frm p ++ t).extract (1 + (encB p.size).size) (1 + (encB p.size).size + p.size) = p := by
    have e : frm p ++ t = (strOfNums [215] ++ encB p.size) ++ p ++ (four (sumN (encT p)) ++ t) := by
      unfold frm encT
      simp only [ByteArray.append_assoc]
    rw [e]
    exact extract_mid _ _ _ _ _ (by rw [ByteArray.size_append, mark_size]) (by rw [ByteArray.size_append, mark_size])
  have e2 : (frm p ++ t).extract 1 (1 + (encB p.size).size + p.size) = encT p := by
    have e : frm p ++ t = strOfNums [215] ++ encT p ++ (four (sumN (encT p)) ++ t) := by
      unfold frm
      simp only [ByteArray.append_assoc]
    rw [e]
    exact extract_mid _ _ _ _ _ mark_size.symm (by rw [mark_size, encT, ByteArray.size_append]; omega)
  have e3 : (frm p ++ t).extract (1 + (encB p.size).size + p.size) (1 + (encB p.size).size + p.size + 4) = four (sumN (encT p)) := by
    have e : frm p ++ t = (strOfNums [215] ++ encT p) ++ four (sumN (encT p)) ++ t := by
      unfold frm
      simp only [ByteArray.append_assoc]
    rw [e]
    exact extract_mid _ _ _ _ _ (by rw [ByteArray.size_append, mark_size, encT, ByteArray.size_append]; omega) (by rw [ByteArray.size_append, mark_size, encT, ByteArray.size_append, four_size]; omega)
  unfold nxt
  rw [if_neg (by rw [ByteArray.size_append]; omega), if_neg (by simp [bt_frm]), hh, hat]
  simp only [Int.toNat_natCast]
  rw [if_neg (by simp), if_neg (by simp only [ByteArray.size_append, four_size]; omega), e2, e3, if_neg (by simp), e1, hs]
/-- What is read was framed. -/
theorem nxt_inv (s : ByteArray) (h : (nxt s).2.2 = 0) : ∃ t, s = frm (nxt s).1 ++ t ∧ (nxt s).1.size ≤ 16384 ∧ (nxt s).2.1 = ((frm (nxt s).1).size : Int) := by
  have hh := rdNum_inv (s.extract 1 s.size) 0 16384
  rw [show rdNum (s.extract 1 s.size) 0 16384 = hd s from rfl] at hh
  have hat : atOf s = s.size - (hd s).2.1.size := rfl
  unfold nxt at *
  split at h
  · exact absurd h (by decide)
  · rename_i h0
    split at h
    · exact absurd h (by decide)
    · rename_i h1
      split at h
      · rename_i h2; exact absurd h h2
      · rename_i h2
        split at h
        · exact absurd h (by decide)
        · rename_i h3
          split at h
          · exact absurd h (by decide)
          · rename_i h4
            rw [if_neg h0, if_neg h1, if_neg h2, if_neg h3, if_neg h4]
            obtain ⟨_, i1, i2, i3, i4⟩ := hh (by simpa using h2)
            have hs := head_split s h0
            have hb : bt s 0 = 215 := by simpa using h1
            rw [hb, i1] at hs
            have hss : s.size = 1 + ((encB (hd s).1).size + (hd s).2.1.size) := by
              conv => lhs; rw [hs]
              rw [ByteArray.size_append, ByteArray.size_append, mark_size]
            generalize hd s = q at *
            generalize atOf s = a at *
            obtain ⟨n, r, e⟩ := q
            obtain ⟨k, rfl⟩ : ∃ k : Nat, n = (k : Int) := ⟨n.toNat, by dsimp only at *; omega⟩
            simp only [Int.toNat_natCast] at *
            have ha : a = 1 + (encB (k : Int)).size := by omega
            have er : r = r.extract 0 k ++ r.extract k r.size := extract_both r k
            have er2 : r.extract k r.size = (r.extract k r.size).extract 0 4 ++ (r.extract k r.size).extract 4 (r.extract k r.size).size := extract_both _ 4
            generalize hp : r.extract 0 k = p at *
            generalize hu : r.extract k r.size = u at *
            generalize hf : u.extract 0 4 = f at *
            generalize ht : u.extract 4 u.size = t at *
            have hps : p.size = k := by rw [← hp, ByteArray.size_extract]; omega
            have hus : u.size = r.size - k := by rw [← hu, ByteArray.size_extract]; omega
            have hfs : f.size = 4 := by rw [← hf, ByteArray.size_extract]; omega
            have e0 : s = strOfNums [215] ++ (encB (k : Int) ++ (p ++ (f ++ t))) := by rw [← er2, ← er]; exact hs
            have hke : encB (k : Int) ++ p = encT p := by unfold encT; rw [hps]
            have x1 : s.extract a (a + k) = p := by
              rw [e0, show strOfNums [215] ++ (encB (k : Int) ++ (p ++ (f ++ t))) = (strOfNums [215] ++ encB (k : Int)) ++ p ++ (f ++ t) by simp only [ByteArray.append_assoc]]
              exact extract_mid _ _ _ _ _ (by rw [ByteArray.size_append, mark_size]; exact ha) (by rw [ByteArray.size_append, mark_size]; omega)
            have x2 : s.extract (a + k) (a + k + 4) = f := by
              rw [e0, show strOfNums [215] ++ (encB (k : Int) ++ (p ++ (f ++ t))) = (strOfNums [215] ++ encB (k : Int) ++ p) ++ f ++ t by simp only [ByteArray.append_assoc]]
              exact extract_mid _ _ _ _ _ (by rw [ByteArray.size_append, ByteArray.size_append, mark_size]; omega) (by rw [ByteArray.size_append, ByteArray.size_append, mark_size]; omega)
            have x3 : s.extract 1 (a + k) = encT p := by
              rw [e0, show strOfNums [215] ++ (encB (k : Int) ++ (p ++ (f ++ t))) = strOfNums [215] ++ (encB (k : Int) ++ p) ++ (f ++ t) by simp only [ByteArray.append_assoc], hke]
              exact extract_mid _ _ _ _ _ mark_size.symm (by rw [mark_size, ← hke, ByteArray.size_append]; omega)
            rw [x2, x3] at h4
            have hf2 : four (sumN (encT p)) = f := by simpa using h4
            refine ⟨t, ?_, ?_, ?_⟩
            · show s = frm (s.extract a (a + k)) ++ t
              rw [x1]
              unfold frm
              rw [hf2, ← hke]
              simp only [ByteArray.append_assoc]
              exact e0
            · show (s.extract a (a + k)).size ≤ 16384
              rw [x1, hps]; omega
            · show ((a + k + 4 : Nat) : Int) = _
              rw [x1, frm_size, hps]; omega
theorem nxt_err (s : ByteArray) (h : (nxt s).2.2 ≠ 0) : (nxt s).1 = ⟨#[]⟩ ∧ (nxt s).2.1 = 0 := by
  unfold nxt at *
  by_cases h0 : s.size = 0
  · rw [if_pos h0]; exact ⟨rfl, rfl⟩
  · rw [if_neg h0] at h ⊢
    by_cases h1 : bt s 0 ≠ 215
    · rw [if_pos h1]; exact ⟨rfl, rfl⟩
    · rw [if_neg h1] at h ⊢
      by_cases h2 : (hd s).2.2 ≠ 0
      · rw [if_pos h2]; exact ⟨rfl, rfl⟩
      · rw [if_neg h2] at h ⊢
        by_cases h3 : (hd s).2.1.size < (hd s).1.toNat + 4
        · rw [if_pos h3]; exact ⟨rfl, rfl⟩
        · rw [if_neg h3] at h ⊢
          by_cases h4 : four (sumN (s.extract 1 (atOf s + (hd s).1.toNat))) ≠ s.extract (atOf s + (hd s).1.toNat) (atOf s + (hd s).1.toNat + 4)
          · rw [if_pos h4]; exact ⟨rfl, rfl⟩
          · rw [if_neg h4] at h; exact absurd rfl h
/-- Neither of two frames begins the other. -/
theorem frm_apart (p q t : ByteArray) (hp : p.size ≤ 16384) (hq : q.size ≤ 16384) (h : frm q = frm p ++ t) : p = q := by
  have h1 := nxt_frm p t hp
  have h2 := nxt_frm q ByteArray.empty hq
  rw [ByteArray.append_empty, h, h1] at h2
  exact (Prod.mk.inj h2).1
theorem four_inj {x y : Nat} (hx : x < 4294967296) (hy : y < 4294967296) (h : four x = four y) : x = y := by
  have h2 := congrArg bytesOf h
  unfold four at h2
  rw [bytesOf_nums _ (by intro z hz; simp at hz; omega), bytesOf_nums _ (by intro z hz; simp at hz; omega)] at h2
  simp only [List.cons.injEq, and_true] at h2
  omega
theorem natsOf_append (a b : ByteArray) : natsOf (a ++ b) = natsOf a ++ natsOf b := by
  unfold natsOf
  rw [ByteArray.data_append]; simp
theorem natsOf_inj {a b : ByteArray} (h : natsOf a = natsOf b) : a = b := by
  have h2 : a.data.toList = b.data.toList := map_inj _ (fun x y hxy => UInt8.toNat_inj.1 hxy) _ _ h
  have h3 : a.data = b.data := Array.toList_inj.1 h2
  cases a; cases b; simp_all
/-- A frame one byte of which is another one isn't a frame. -/
theorem frm_turned (p q : ByteArray) (i c : Nat) (hi : i < (frm p).size) (hc : c < 256) (hne : (natsOf (frm p))[i]? ≠ some c) (h : natsOf (frm q) = (natsOf (frm p)).set i c) : False := by
  have hl : (frm q).size = (frm p).size := by rw [← natsOf_length, h, List.length_set, natsOf_length]
  have hT : ∀ z, (frm z).size = 1 + (encT z).size + 4 := by intro z; rw [frm_size, encT, ByteArray.size_append]; omega
  have hTT : (encT q).size = (encT p).size := by have := hT p; have := hT q; omega
  have e : ∀ z, natsOf (frm z) = natsOf (strOfNums [215]) ++ (natsOf (encT z) ++ natsOf (four (sumN (encT z)))) := by
    intro z; unfold frm; rw [natsOf_append, natsOf_append, List.append_assoc]
  have lM : (natsOf (strOfNums ([215] : List Int))).length = 1 := by rw [natsOf_length]; rfl
  have lT : ∀ z, (natsOf (encT z)).length = (encT z).size := fun z => natsOf_length _
  have lF : ∀ z, (natsOf (four (sumN (encT z)))).length = 4 := fun z => by rw [natsOf_length, four_size]
  by_cases hEq : encT q = encT p
  · have : frm q = frm p := by unfold frm; rw [hEq]
    rw [this] at h
    apply hne
    have hi' : i < (natsOf (frm p)).length := by rw [natsOf_length]; exact hi
    rw [h, List.getElem?_set_self hi']
  · rw [e, e] at h
    have hp1 : 1 ≤ i := by
      rcases Nat.eq_zero_or_pos i with h0 | h0
      · exfalso
        subst h0
        apply hEq
        have := congrArg (List.drop 1) h
        rw [List.drop_left' lM, List.drop_set, List.drop_left' lM] at this
        simp at this
        have h3 := List.append_inj this (by rw [lT, lT, hTT])
        exact natsOf_inj h3.1
      · exact h0
    have hp2 : i - 1 < (encT p).size := by
      rcases Nat.lt_or_ge (i - 1) (encT p).size with h0 | h0
      · exact h0
      · exfalso
        apply hEq
        rw [List.set_append_right _ _ (by rw [lM]; exact hp1), lM, List.set_append_right _ _ (by rw [lT]; exact h0)] at h
        have h3 := List.append_inj h rfl
        have h4 := List.append_inj h3.2 (by rw [lT, lT, hTT])
        exact natsOf_inj h4.1
    rw [List.set_append_right _ _ (by rw [lM]; exact hp1), lM, List.set_append_left _ _ (by rw [lT]; exact hp2)] at h
    have h3 := List.append_inj h rfl
    have h4 := List.append_inj h3.2 (by rw [List.length_set, lT, lT, hTT])
    have h5 := four_inj (sumN_lt _) (sumN_lt _) (natsOf_inj h4.2)
    have hj : i - 1 < (natsOf (encT p)).length := by rw [lT]; exact hp2
    have hs : natsOf (encT p) = (natsOf (encT p)).take (i - 1) ++ (natsOf (encT p))[i - 1] :: (natsOf (encT p)).drop (i - 1 + 1) := by
      rw [← List.drop_eq_getElem_cons hj, List.take_append_drop]
    have hs2 : natsOf (encT q) = (natsOf (encT p)).take (i - 1) ++ c :: (natsOf (encT p)).drop (i - 1 + 1) := by
      rw [h4.1, List.set_eq_take_append_cons_drop, if_pos hj]
    have h6 := sumN_one _ _ _ _ _ _ hs2 hs h5
    apply hEq
    apply natsOf_inj
    rw [hs, hs2, h6]
theorem awake_f : dovecotelaw03_awake.f = some true := by decide +kernel
theorem awake_calls (w : World) : Calls Try.prog 9 #[] w fun e w' => e = .returned (.bool true) ∧ Below w.heap.size w w' :=
  dovecotelaw03_awake.calls true w awake_f


/-- The frames from place i on, in k steps at most. -/
def scanN : Nat → ByteArray → List ByteArray → Nat → List ByteArray × Nat
  | 0, _, l, i => (l, i)
  | k + 1, s, l, i => if (nxt (s.extract i s.size)).2.2 = 0 then scanN k s (l ++ [(nxt (s.extract i s.size)).1]) (i + (nxt (s.extract i s.size)).2.1.toNat) else (l, i)
def scan (s : ByteArray) : List ByteArray × Nat := scanN (s.size + 1) s [] 0
theorem info_str : (Try.prog.info? 9).map (fun i => (i.zero, i.size, i.bytes)) = some (some (.string ⟨#[]⟩), 1, 16) := by kernel_rfl
/-- What holds at the label: so many frames have been read. -/
def ScanJ (s : ByteArray) (w : World) (n lb : Nat) (a : Act) (w' : World) : Prop := lb = 0 ∧ ∃ (i k : Nat) (l : List ByteArray) (v : Value) (u : Nat → Value),
  a = { tmps := #[.string s, u 1, u 2, u 3, v, .int .i64 (i : Int), u 6, u 7, u 8, u 9, u 10, u 11, u 12, u 13, u 14, u 15, u 16, u 17, u 18, u 19, u 20, u 21, u 22, u 23, u 24, u 25, u 26, u 27], defers := [] } ∧ i ≤ s.size ∧ l.length ≤ i ∧ n = s.size - i ∧ s.size - i < k ∧ scanN k s l i = scan s ∧ Kd.R Kd.string 9 w' w.heap.size (fun _ => True) v l ∧ Below w.heap.size w w'
theorem ScanJ.mk {s : ByteArray} {w w' : World} {u1 u2 u3 u6 u7 u8 u9 u10 u11 u12 u13 u14 u15 u16 u17 u18 u19 u20 u21 u22 u23 u24 u25 u26 u27 v : Value} {i : Nat} (k : Nat) (l : List ByteArray) (hi : i ≤ s.size) (hl : l.length ≤ i) (hk : s.size - i < k) (hsc : scanN k s l i = scan s) (hR : Kd.R Kd.string 9 w' w.heap.size (fun _ => True) v l) (hB : Below w.heap.size w w') :
    ScanJ s w (s.size - i) 0 { tmps := #[.string s, u1, u2, u3, v, .int .i64 (i : Int), u6, u7, u8, u9, u10, u11, u12, u13, u14, u15, u16, u17, u18, u19, u20, u21, u22, u23, u24, u25, u26, u27], defers := [] } w' :=
  ⟨rfl, i, k, l, v, fun j => (#[undef, u1, u2, u3, undef, undef, u6, u7, u8, u9, u10, u11, u12, u13, u14, u15, u16, u17, u18, u19, u20, u21, u22, u23, u24, u25, u26, u27] : Array Value).getD j undef, rfl, hi, hl, rfl, hk, hsc, hR, hB⟩
/-- What one frame more makes of it. -/
theorem scan_step {s : ByteArray} {i k : Nat} {l : List ByteArray} {p : ByteArray} {m : Int} (hi : i ≤ s.size) (hl : l.length ≤ i) (hk : s.size - i < k + 1) (hsc : scanN (k + 1) s l i = scan s) (hV : nxt (s.extract i s.size) = (p, m, 0)) :
    ∃ z : Nat, m = (z : Int) ∧ 6 ≤ z ∧ i + z ≤ s.size ∧ scanN k s (l ++ [p]) (i + z) = scan s := by
  obtain ⟨t, e1, e2, e3⟩ := nxt_inv (s.extract i s.size) (by rw [hV])
  rw [hV] at e1 e2 e3
  dsimp only at e1 e2 e3
  have hes := encB_size (n := (p.size : Int)) (by omega)
  have hfs := frm_size p
  have hsz := congrArg ByteArray.size e1
  rw [ByteArray.size_append, ByteArray.size_extract] at hsz
  refine ⟨(frm p).size, e3, by omega, by omega, ?_⟩
  conv at hsc => lhs; unfold scanN
  rw [hV] at hsc
  dsimp only at hsc
  rw [if_pos rfl, e3, Int.toNat_natCast] at hsc
  exact hsc
theorem scan_stop {s : ByteArray} {i k : Nat} {l : List ByteArray} {p : ByteArray} {m er : Int} (hsc : scanN (k + 1) s l i = scan s) (hV : nxt (s.extract i s.size) = (p, m, er)) (he : er ≠ 0) : scan s = (l, i) := by
  conv at hsc => lhs; unfold scanN
  rw [hV] at hsc
  dsimp only at hsc
  rw [if_neg he] at hsc
  exact hsc.symm
set_option maxRecDepth 100000 in
set_option maxHeartbeats 4000000 in
theorem scan_calls (s : ByteArray) (hs : s.size ≤ 200000) (w : World) :
    Calls Try.prog 16 #[.string s] w fun e w' => ∃ v0_ : Value, e = .returned (.tuple #[v0_, .int .i64 ((scan s).2 : Int)]) ∧ Kd.R Kd.string 9 w' w.heap.size (fun _ => True) v0_ (scan s).1 ∧ Below w.heap.size w w' := by
  go_enter Try.func16, Try.ntmps16
  go_wp2
  refine wp_scope_many (ScanJ s w) ?first ?pass
  case first =>
    have HR := Lib.hid (Kd.R_nil Kd.string 9 w w.heap.size (fun _ => True))
    have HB := Lib.hid (Below.refl w.heap.size w)
    have HK : Hid (s.size - 0 < s.size + 1) := Lib.hid (by omega)
    have HSC : Hid (scanN (s.size + 1) s [] 0 = scan s) := rfl
    have b1 : (0 : Int) ≤ (s.size : Int) := by omega
    go_wp2_with fail
    refine wp_label ?_
    go_wp2_with fail
    have HSS : Hid (s = s.extract 0 s.size) := Lib.hid ByteArray.extract_zero_size.symm
    refine (next_calls s (by omega) _).mono ?_
    rintro e w1 ⟨rfl, hB1⟩
    have HB1 := Lib.hid (below_step HB.out hB1)
    have HR1 := Lib.hid (Kd.R_below HR.out hB1)
    clear hB1 HB HR
    rw [nxtV]
    generalize hV : nxt s = Vt
    obtain ⟨p, m, er⟩ := Vt
    dsimp only
    by_cases he : er = 0
    · subst he
      obtain ⟨z, rfl, hz6, hiz, hsc2⟩ := scan_step (i := 0) (k := s.size) (l := ([] : List ByteArray)) (by omega) (by first | omega | exact Nat.zero_le _) (by have := HK.out; omega) HSC.out (by rw [← HSS.out]; exact hV)
      have HSC2 := Lib.hid hsc2
      have hll : (([] : List ByteArray) : List ByteArray).length ≤ 0 := by first | omega | exact Nat.zero_le _
      clear hsc2 hV HSC
      go_wp2_with (at_builtin; refine halt_ ?_)
      refine Lib.hid ?_
      refine Kd.R_append Kd.string (w0 := w) w.heap.size rfl (.tmp 19) (.tmp 21) 38 9 (.string ⟨#[]⟩) 16 rfl Try.underlying38 info_str rfl (by decide) (by omega) (.slice none 0 0) ([] : List ByteArray) p [.string p] (fun _ => True) (fun _ => False) rfl rfl ?aP (fun _ hk => hk.elim) ?aF ?aO ?aB ?aS ?aL ?_
      case aP => exact rfl
      case aB => exact (by repeat (first | (with_reducible first | exact HB1.out | apply below_alloc | apply pw_below_drewN | apply below_drew1) | exact HB1.out))
      case aF => exact (fun _ _ => trivial)
      case aO => exact (by (with_reducible repeat (first | apply Kd.R_alloc | apply Kd.R_drewN | apply Kd.R_drew)); exact HR1.out)
      case aS => exact (below_size (by repeat (first | (with_reducible first | exact HB1.out | apply below_alloc | apply pw_below_drewN | apply below_drew1) | exact HB1.out)))
      case aL => first | omega | (simp; done)
      intro v1 w2 ho hb hg hat
      have HR2 := Lib.hid ho
      have HB2 := Lib.hid hb
      clear ho hb hg hat HB1 HR1
      have hw : IntKind.i64.wrap (((0 : Nat) : Int) + (z : Int)) = ((0 + z : Nat) : Int) := by rw [IntKind.wrap_i64]; omega
      have hw0 : ((0 : Nat) : Int) + (z : Int) = ((0 + z : Nat) : Int) := by omega
      have hlen : (([] : List ByteArray) ++ [p]).length ≤ 0 + z := by rw [List.length_append, List.length_singleton]; omega
      have hkk : s.size - (0 + z) < s.size := by have := HK.out; omega
      have HQ := Lib.hid (show 0 + z ≤ s.size ∧ (([] : List ByteArray) ++ [p]).length ≤ 0 + z ∧ s.size - (0 + z) < s.size ∧ scanN s.size s (([] : List ByteArray) ++ [p]) (0 + z) = scan s from ⟨hiz, hlen, hkk, HSC2.out⟩)
      have HLT : Hid (s.size - (0 + z) < s.size - 0) := Lib.hid (by omega)
      clear hlen hkk HSC2 hll
      generalize ([] : List ByteArray) ++ [p] = l2 at *
      rw [Nat.zero_add] at HQ
      clear hw hw0
      go_wp2
      go_step3
      exact ⟨_, ScanJ.mk _ _ HQ.out.1 HQ.out.2.1 HQ.out.2.2.1 HQ.out.2.2.2 HR2.out HB2.out⟩
    · have HE := Lib.hid (scan_stop (i := 0) (k := s.size) (l := ([] : List ByteArray)) HSC.out (by rw [← HSS.out]; exact hV) he)
      have c1 : (er == 0) = false := beq_eq_false_iff_ne.mpr he
      have c2 : (er != 0) = true := bne_iff_ne.mpr he
      clear hV HSC
      go_wp2_with fail
      simp only [jumps_ret]
      go_ret2
      exact ⟨_, by rw [HE.out]; rfl, by rw [HE.out]; exact HR1.out, HB1.out⟩
  case pass =>
    rintro n lb a w' ⟨rfl, i, k, l, v, u, rfl, hi, hl, hn, hk, hsc, hR, hB⟩
    refine ⟨_, rfl, ?_⟩
    obtain ⟨k', rfl⟩ : ∃ k', k = k' + 1 := ⟨k - 1, by omega⟩
    have HR := Lib.hid hR
    have HB := Lib.hid hB
    have HN := Lib.hid hn
    have HK := Lib.hid hk
    have HSC := Lib.hid hsc
    clear hR hB hn hk hsc
    have b0 : (0 : Int) ≤ (i : Int) := by omega
    have b1 : (i : Int) ≤ (s.size : Int) := by omega
    go_wp2_with fail
    obtain ⟨S, hS⟩ : ∃ S, S = s.extract i s.size := ⟨_, rfl⟩
    have hSz : S.size ≤ 281474976710656 := by rw [hS, ByteArray.size_extract]; omega
    rw [← hS]
    have HSS := Lib.hid hS
    clear hS
    refine (next_calls S hSz _).mono ?_
    rintro e w1 ⟨rfl, hB1⟩
    have HB1 := Lib.hid (below_step HB.out hB1)
    have HR1 := Lib.hid (Kd.R_below HR.out hB1)
    clear hB1 HB HR
    rw [nxtV]
    generalize hV : nxt S = Vt
    obtain ⟨p, m, er⟩ := Vt
    dsimp only
    by_cases he : er = 0
    · subst he
      obtain ⟨z, rfl, hz6, hiz, hsc2⟩ := scan_step (i := i) (k := k') (l := l) (by omega) (by first | omega | exact Nat.zero_le _) (by have := HK.out; omega) HSC.out (by rw [← HSS.out]; exact hV)
      have HSC2 := Lib.hid hsc2
      have hll : (l : List ByteArray).length ≤ i := by first | omega | exact Nat.zero_le _
      clear hsc2 hV HSC
      go_wp2_with (at_builtin; refine halt_ ?_)
      refine Lib.hid ?_
      refine Kd.R_append Kd.string (w0 := w) w.heap.size rfl (.tmp 19) (.tmp 21) 38 9 (.string ⟨#[]⟩) 16 rfl Try.underlying38 info_str rfl (by decide) (by omega) v l p [.string p] (fun _ => True) (fun _ => False) rfl rfl ?aP (fun _ hk => hk.elim) ?aF ?aO ?aB ?aS ?aL ?_
      case aP => exact rfl
      case aB => exact (by repeat (first | (with_reducible first | exact HB1.out | apply below_alloc | apply pw_below_drewN | apply below_drew1) | exact HB1.out))
      case aF => exact (fun _ _ => trivial)
      case aO => exact (by (with_reducible repeat (first | apply Kd.R_alloc | apply Kd.R_drewN | apply Kd.R_drew)); exact HR1.out)
      case aS => exact (below_size (by repeat (first | (with_reducible first | exact HB1.out | apply below_alloc | apply pw_below_drewN | apply below_drew1) | exact HB1.out)))
      case aL => first | omega | (simp; done)
      intro v1 w2 ho hb hg hat
      have HR2 := Lib.hid ho
      have HB2 := Lib.hid hb
      clear ho hb hg hat HB1 HR1
      have hw : IntKind.i64.wrap (((i : Nat) : Int) + (z : Int)) = ((i + z : Nat) : Int) := by rw [IntKind.wrap_i64]; omega
      have hw0 : ((i : Nat) : Int) + (z : Int) = ((i + z : Nat) : Int) := by omega
      have hlen : (l ++ [p]).length ≤ i + z := by rw [List.length_append, List.length_singleton]; omega
      have hkk : s.size - (i + z) < k' := by have := HK.out; omega
      have HQ := Lib.hid (show i + z ≤ s.size ∧ (l ++ [p]).length ≤ i + z ∧ s.size - (i + z) < k' ∧ scanN k' s (l ++ [p]) (i + z) = scan s from ⟨hiz, hlen, hkk, HSC2.out⟩)
      have HLT : Hid (s.size - (i + z) < s.size - i) := Lib.hid (by omega)
      clear hlen hkk HSC2 hll
      generalize l ++ [p] = l2 at *
      obtain ⟨j, hj⟩ : ∃ j, j = i + z := ⟨_, rfl⟩
      rw [← hj] at hw hw0 HQ HLT
      clear hj
      go_wp2
      go_step3
      exact ⟨_, by rw [HN.out]; exact HLT.out, ScanJ.mk _ _ HQ.out.1 HQ.out.2.1 HQ.out.2.2.1 HQ.out.2.2.2 HR2.out HB2.out⟩
    · have HE := Lib.hid (scan_stop (i := i) (k := k') (l := l) HSC.out (by rw [← HSS.out]; exact hV) he)
      have c1 : (er == 0) = false := beq_eq_false_iff_ne.mpr he
      have c2 : (er != 0) = true := bne_iff_ne.mpr he
      clear hV HSC
      go_wp2_with fail
      simp only [jumps_ret]
      go_ret2
      exact ⟨_, by rw [HE.out]; rfl, by rw [HE.out]; exact HR1.out, HB1.out⟩
end Go.Proofs.Ytapgmedfedcliaa

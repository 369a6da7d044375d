/- The walk of PackLists: a list of texts is written and read as it was. Condition: the texts' bytes and their number (the second form's bound). -/
import Derived.Test.YtbmodiomoogffaaRi
import Derived.Test.YtbmodiomoogffaaAw
import Derived.Deep.RegionHeld3
import Derived.OpenShut
import Derived.Test.YtbmodiomoogffaaRows
import Derived.Test.YtbmodiomoogffaaOp
set_option linter.unusedVariables false
set_option linter.unusedSimpArgs false
namespace Go.Proofs.Ytbmodiomoogffaa
open Go.RowKit Go.Deep Go.Proofs.YtbmodiomoogffaaW.PrintWords PRd

/-- The texts' bytes, one behind the other, each with its length ahead. -/
def encTs : List ByteArray → ByteArray
  | [] => ByteArray.empty
  | x :: l => (encB x.size ++ x) ++ encTs l
/-- How many bytes they have. -/
def tot : List ByteArray → Nat
  | [] => 0
  | x :: l => x.size + tot l
theorem encTs_snoc (l : List ByteArray) (x : ByteArray) : encTs (l ++ [x]) = encTs l ++ (encB x.size ++ x) := by
  induction l with
  | nil => show (encB x.size ++ x) ++ ByteArray.empty = ByteArray.empty ++ _; rw [ByteArray.append_empty, ByteArray.empty_append]
  | cons y l ih => show _ ++ encTs (l ++ [x]) = _ ++ encTs l ++ _; rw [ih]; simp only [ByteArray.append_assoc]
theorem tot_snoc (l : List ByteArray) (x : ByteArray) : tot (l ++ [x]) = tot l + x.size := by
  induction l with
  | nil => show x.size + 0 = 0 + x.size; omega
  | cons y l ih => show y.size + tot (l ++ [x]) = y.size + tot l + x.size; rw [ih]; omega
theorem encTs_take (l : List ByteArray) (i : Nat) (h : i < l.length) : encTs (l.take (i + 1)) = encTs (l.take i) ++ (encB l[i].size ++ l[i]) := by
  rw [List.take_succ_eq_append_getElem h, encTs_snoc]
theorem tot_take (l : List ByteArray) (i : Nat) (h : i < l.length) : tot (l.take (i + 1)) = tot (l.take i) + l[i].size := by
  rw [List.take_succ_eq_append_getElem h, tot_snoc]
theorem tot_le (l : List ByteArray) : ∀ i, tot (l.take i) ≤ tot l := by
  induction l with
  | nil => intro i; simp [tot]
  | cons x l ih =>
    intro i
    cases i with
    | zero => exact Nat.zero_le _
    | succ i => have := ih i; show x.size + tot (l.take i) ≤ x.size + tot l; omega
theorem tot_mem (l : List ByteArray) (x : ByteArray) (h : x ∈ l) : x.size ≤ tot l := by
  induction l with
  | nil => cases h
  | cons y l ih =>
    show x.size ≤ y.size + tot l
    rcases List.mem_cons.1 h with rfl | h
    · omega
    · have := ih h; omega
theorem encTs_size (l : List ByteArray) (h : tot l ≤ 9223372036854775807) : (encTs l).size ≤ 9 * l.length + tot l := by
  induction l with
  | nil => exact Nat.zero_le _
  | cons x l ih =>
    have h' : x.size + tot l ≤ 9223372036854775807 := h
    have h1 := ih (by omega)
    have h2 := encB_size (n := (x.size : Int)) (by omega)
    show ((encB x.size ++ x) ++ encTs l).size ≤ 9 * (l.length + 1) + (x.size + tot l)
    rw [ByteArray.size_append, ByteArray.size_append]
    omega
theorem rdCount_enc (n : Nat) (m : Int) (t : ByteArray) (h : (n : Int) ≤ m) (hm : m ≤ 1000000) : rdCount (encB n ++ t) 0 m = ((n : Int), t, 0) := by
  unfold rdCount
  rw [show mx m 0 = m by unfold mx; split <;> omega]
  exact rdNum_enc _ _ _ (by omega) (by omega) h
theorem rdCount_few (n : Nat) (t : ByteArray) (h0 : 1 ≤ n) (h : n ≤ 1000) : rdCount (encB n ++ t) 0 ((n : Int) - 1) = (0, ByteArray.empty, 3) := by
  unfold rdCount
  rw [show mx ((n : Int) - 1) 0 = (n : Int) - 1 by unfold mx; split <;> omega]
  unfold rdNum
  rw [if_pos rfl, numR_enc _ _ _ (by omega) (by omega), if_neg (by omega)]

set_option maxRecDepth 100000 in
set_option maxHeartbeats 8000000 in
theorem lists_calls (A : Option Addr) (cap : Nat) (l : List ByteArray) (hlc : l.length ≤ cap) (hbk : l.length + tot l ≤ 1048576) (w : World) (hC : Kd.C Kd.string w A l.length l) :
    Calls Try.prog 4 #[.slice A l.length cap] w fun e w' => e = .returned (.bool true) ∧ Below w.heap.size w w' := by
  have HA := Lib.hid (awake_calls w w (Below.refl _ _))
  have HC := Lib.hid hC
  clear hC
  go_enter Try.func4, Try.ntmps4
  go_wp2_with fail
  refine HA.out.mono ?_
  rintro e w1 ⟨rfl, hB⟩
  have HB1 := Lib.hid hB
  clear hB HA
  have HW1 := Lib.hid (IsS27.made w w1 HB1.out.size)
  have HB2 := Lib.hid (below_alloc' HB1.out (.cells #[.slice none 0 0] 27))
  have hge := HB1.out.size
  go_wp2_with fail
  generalize w1.heap.size = g at *
  generalize w1.alloc (.cells #[.slice none 0 0] 27) = w2 at *
  clear HB1 hge
  refine (wnum w _ g _ (l.length : Int) (by omega) (by omega) HW1.out HB2.out (by show 0 + 9 ≤ _; omega)).mono ?_
  rintro e w3 ⟨rfl, hW, hB, hk⟩
  rw [ByteArray.empty_append] at hW
  have HW3 := Lib.hid hW
  have HB3 := Lib.hid hB
  clear hW hB hk HW1 HB2
  have hu := encB_size (n := (l.length : Int)) (by omega)
  generalize hU : encB (l.length : Int) = U at *
  have HU := Lib.hid hU
  clear hU
  go_wp2_with fail
  have hcap : Hid (l.length ≤ cap) := hlc
  clear hlc
  go_loopg [4, 22] (l.length + 1) (fun gk v4 v22 wr => ∃ (i : Nat), i ≤ l.length ∧ v4 = .int .i64 (tot (l.take i) : Int) ∧ v22 = .int .i64 (i : Int) ∧ Aside0 (i + gk = l.length + 1) ∧ Aside0 (IsS27 w wr g (U ++ encTs (l.take i)) ∧ Below w.heap.size w wr))
  case atStart => exact ⟨0, Nat.zero_le _, rfl, rfl, ⟨by omega⟩, ⟨by rw [show encTs (l.take 0) = ByteArray.empty from rfl, ByteArray.append_empty]; exact HW3.out, HB3.out⟩⟩
  case round =>
    obtain ⟨i, hi, rfl, rfl, ⟨hg⟩, ⟨hW, hB⟩⟩ := hrel
    have HW := Lib.hid hW
    have HB := Lib.hid hB
    have HG := Lib.hid hg
    clear hW hB hg HW3 HB3
    have htl := tot_le l i
    have hlt0 : (l.take i).length = i := by rw [List.length_take]; omega
    have hsz := encTs_size (l.take i) (by omega)
    rw [hlt0] at hsz
    rcases (show i < l.length ∨ i = l.length by omega) with hlt | hlt
    · obtain ⟨ad, rfl, k0⟩ := Kd.at_string (Kd.C_below HC.out HB.out) (i : Int) (by omega) (by omega)
      have hx : rdOf ByteArray.empty l (i : Int) = l[i] := by unfold rdOf; rw [List.getD_eq_getElem?_getD, Int.toNat_natCast, List.getElem?_eq_getElem hlt]; rfl
      rw [hx] at k0
      simp only [Int.toNat_natCast] at k0
      have hE := encTs_take l i hlt
      have hT := tot_take l i hlt
      have hT1 := tot_le l (i + 1)
      obtain ⟨x, hxx⟩ : ∃ x, x = l[i] := ⟨_, rfl⟩
      rw [← hxx] at k0 hE hT
      clear hx hxx
      have HE := Lib.hid hE
      obtain ⟨u, hu2⟩ : ∃ u, u = U ++ encTs (l.take i) := ⟨_, rfl⟩
      have hus : u.size ≤ 20000000 := by rw [hu2, ByteArray.size_append]; omega
      rw [← hu2] at HW
      have HU2 := Lib.hid hu2
      obtain ⟨n0, hn0⟩ : ∃ n0, n0 = tot (l.take i) := ⟨_, rfl⟩
      rw [← hn0] at hT htl hsz ⊢
      have hnx : n0 + x.size ≤ 1048576 := by omega
      have HT := Lib.hid hT
      clear hE hu2 hT hn0 hT1 hsz hlt0
      go_wp2_with fail
      refine (wtext w _ g _ x HW.out HB.out (by omega)).mono ?_
      rintro e w4 ⟨rfl, hW, hB, hk⟩
      have HW4 := Lib.hid (show IsS27 w w4 g (U ++ encTs (l.take (i + 1))) from by
        rw [HE.out]; rw [HU2.out] at hW; simp only [ByteArray.append_assoc] at hW ⊢; exact hW)
      have HB4 := Lib.hid hB
      clear hW hB hk HW HB
      go_wp2
      go_roundg (gk - 1)
      case measure => have := HG.out; omega
      case rel => exact ⟨i + 1, by omega, by rw [HT.out]; go_num, by go_num, ⟨by have := HG.out; omega⟩, ⟨HW4.out, HB4.out⟩⟩
    · subst hlt
      have hls : l.take l.length = l := List.take_length
      rw [hls] at HW hsz ⊢
      clear HG hi hls htl hlt0
      rcases (show (100 < l.length ∨ 3000 < tot l) ∨ (l.length ≤ 100 ∧ tot l ≤ 3000) by omega) with hl | ⟨hl1, hl2⟩
      · have HL := Lib.hid hl
        clear hl
        go_wp2_with fail
        all_goals first | (go_ret; exact ⟨rfl, HB.out⟩) | (exfalso; have := HL.out; omega)
      · have HTM := Lib.hid (tot_mem l)
        have hul : (U ++ encTs l).size ≤ 10000 := by rw [ByteArray.size_append]; omega
        go_wp2_with fail
        refine (wbytes w _ g _ HW.out HB.out).mono ?_
        rintro e w5 ⟨rfl, hW, hB, hk⟩
        have HW5 := Lib.hid hW
        have HB5 := Lib.hid hB
        clear hW hB hk HW HB
        obtain ⟨S, hS⟩ : ∃ S, S = U ++ encTs l := ⟨_, rfl⟩
        rw [← hS] at HW5 hul ⊢
        have HS := Lib.hid hS
        clear hS hsz
        go_wp2_with fail
        refine (rnew _ HB5.out).mono ?_
        rintro e w6 ⟨r, rfl, hR, hB, hb, hr⟩
        have HW6 := Lib.hid (HW5.out.below hb)
        have HR6 := Lib.hid hR
        have HB6 := Lib.hid hB
        clear hR hB hb hr HB5 HW5
        have ER := Lib.hid (show rdCount S 0 100 = ((l.length : Int), encTs l, 0) from by rw [HS.out, ← HU.out]; exact rdCount_enc _ _ _ (by omega) (by omega))
        go_wp2_with fail
        refine (rcount 100 HR6.out HB6.out (by decide)).mono ?_
        rw [ER.out]
        rintro e w7 ⟨rfl, hR, hB, hk⟩
        have HW7 := Lib.hid (wr_keepR hk HR6.out HW6.out)
        have HR7 := Lib.hid hR
        have HB7 := Lib.hid hB
        clear hR hB hk HR6 HB6 HW6 ER
        go_wp2_with fail
        go_loopg [51] (l.length + 1) (fun gk v51 wr => ∃ (i : Nat), i ≤ l.length ∧ v51 = .int .i64 (i : Int) ∧ Aside0 (i + gk = l.length + 1) ∧ Aside0 (IsS63 w wr r (encTs (l.drop i)) 0 ∧ IsS27 w wr g S ∧ Below w.heap.size w wr))
        case atStart => exact ⟨0, Nat.zero_le _, rfl, ⟨by omega⟩, ⟨HR7.out, HW7.out, HB7.out⟩⟩
        case round =>
          obtain ⟨i, hi, rfl, ⟨hg⟩, ⟨hR, hW, hB⟩⟩ := hrel
          have HR := Lib.hid hR
          have HW := Lib.hid hW
          have HB := Lib.hid hB
          have HG := Lib.hid hg
          clear hR hW hB hg HR7 HW7 HB7
          rcases (show i < l.length ∨ i = l.length by omega) with hlt | hlt
          · obtain ⟨ad, rfl, k0⟩ := Kd.at_string (Kd.C_below HC.out HB.out) (i : Int) (by omega) (by omega)
            have hx : rdOf ByteArray.empty l (i : Int) = l[i] := by unfold rdOf; rw [List.getD_eq_getElem?_getD, Int.toNat_natCast, List.getElem?_eq_getElem hlt]; rfl
            rw [hx] at k0
            simp only [Int.toNat_natCast] at k0
            have hdr : encTs (l.drop i) = (encB l[i].size ++ l[i]) ++ encTs (l.drop (i + 1)) := by rw [List.drop_eq_getElem_cons hlt]; rfl
            have hxs := HTM.out l[i] (List.getElem_mem hlt)
            obtain ⟨x, hxx⟩ : ∃ x, x = l[i] := ⟨_, rfl⟩
            rw [← hxx] at k0 hdr hxs
            clear hx hxx
            have EN := Lib.hid (show rdText (encTs (l.drop i)) 0 0 3000 = (x, encTs (l.drop (i + 1)), 0) from by rw [hdr]; exact rdText_enc _ _ _ _ (by omega) (by omega) (by omega))
            have hds : (encTs (l.drop i)).size ≤ 9223372036854775807 := HR.out.1 |> fun _ => by
              have h1 : tot (l.drop i) ≤ tot l := by
                have : ∀ (m : List ByteArray) j, tot (m.drop j) ≤ tot m := by
                  intro m
                  induction m with
                  | nil => intro j; simp
                  | cons y m ih => intro j; cases j with
                    | zero => exact Nat.le_refl _
                    | succ j => have := ih j; show tot (m.drop j) ≤ y.size + tot m; omega
                exact this l i
              have h2 := encTs_size (l.drop i) (by omega)
              have h3 := List.length_drop (i := i) (l := l)
              omega
            have HDS := Lib.hid hds
            clear hdr hds
            go_wp2_with fail
            refine (rtext 0 3000 HR.out HB.out HDS.out (by decide) (by decide)).mono ?_
            rw [EN.out]
            rintro e w8 ⟨rfl, hR, hB, hk⟩
            have HW8 := Lib.hid (wr_keepR hk HR.out HW.out)
            have HR8 := Lib.hid hR
            have HB8 := Lib.hid hB
            clear hR hB hk HR HW HB
            go_wp2
            go_roundg (gk - 1)
            case measure => have := HG.out; omega
            case rel => exact ⟨i + 1, by omega, by go_num, ⟨by have := HG.out; omega⟩, ⟨HR8.out, HW8.out, HB8.out⟩⟩
          · subst hlt
            rw [List.drop_length] at HR
            clear HG hi
            go_wp2_with fail
            refine (wbytes w _ g _ HW.out HB.out).mono ?_
            rintro e w8 ⟨rfl, hW, hB, hk⟩
            have HR8 := Lib.hid (rd_keepW hk HW.out HR.out)
            have HB8 := Lib.hid hB
            clear hW hB hk HR HW HB
            go_wp2_with fail
            refine (rnew _ HB8.out).mono ?_
            rintro e w9 ⟨f, rfl, hF, hB, hb, hr⟩
            have HF9 := Lib.hid hF
            have HB9 := Lib.hid hB
            have HR9 := Lib.hid (show IsS63 w w9 r (encTs []) 0 from ⟨(hb.block r (Array.getElem?_eq_some_iff.1 HR8.out.1).1).trans HR8.out.1, HR8.out.2⟩)
            have hfr : f ≠ r := by have := (Array.getElem?_eq_some_iff.1 HR8.out.1).1; omega
            have HFR := Lib.hid hfr
            clear hF hB hb hr hfr HR8 HB8
            go_wp2_with fail
            refine (rend HR9.out HB9.out).mono ?_
            rintro e w10 ⟨rfl, hR, hB, hk⟩
            have HB10 := Lib.hid hB
            have HF10 := Lib.hid (show IsS63 w w10 f S 0 from ⟨(hk.2 f (Array.getElem?_eq_some_iff.1 HF9.out.1).1 HFR.out (by simp)).trans HF9.out.1, HF9.out.2⟩)
            clear hR hB hk HR9 HB9 HF9
            have hE : rdEnd (encTs []) 0 = 0 := rfl
            rcases (show l.length = 0 ∨ 1 ≤ l.length by omega) with h0 | h0
            · have h0' : ((l.length : Int) == 0) = true := by simp [h0]
              go_wp2_with fail
              all_goals first | (go_ret; exact ⟨rfl, HB10.out⟩) | (exfalso; omega)
            · have EC := Lib.hid (show rdCount S 0 ((l.length : Int) - 1) = (0, ByteArray.empty, 3) from by rw [HS.out, ← HU.out]; exact rdCount_few _ _ h0 (by omega))
              have hnl : ¬ l = [] := by rintro rfl; simp at h0
              go_wp2_with fail
              refine (rcount ((l.length : Int) - 1) HF10.out HB10.out (by omega)).mono ?_
              rw [EC.out]
              rintro e w11 ⟨rfl, hR, hB, hk⟩
              have HB11 := Lib.hid hB
              have HF11 := Lib.hid hR
              clear hR hB hk HF10 HB10
              go_wp2_with fail
              refine (rerr HF11.out HB11.out).mono ?_
              rintro e w12 ⟨rfl, hR, hB, hk⟩
              have HB12 := Lib.hid hB
              clear hR hB hk HF11 HB11
              go_wp2
              go_ret
              exact ⟨rfl, HB12.out⟩

/-- What the second form's bound tells of a list of texts. -/
theorem bulk_tot {H : Type} (l : List ByteArray) (ds : List (DataW H)) (hl : ds.length = l.length) (hq : ∀ i (h : i < l.length) (h' : i < ds.length), ds[i] = .lit (.string l[i].data.toList)) : l.length + tot l ≤ Rows.uptoBulkAll ds := by
  induction l generalizing ds with
  | nil => exact Nat.zero_le _
  | cons x l ih =>
    cases ds with
    | nil => simp at hl
    | cons d ds =>
      have h0 := hq 0 (by simp) (by simp)
      have h1 := ih ds (by simpa using hl) (fun i h h' => by have := hq (i + 1) (by simpa using h) (by simpa using h'); simpa using this)
      have e : x.data.toList.length = x.size := by rw [Array.length_toList]; rfl
      simp only [List.getElem_cons_zero] at h0
      subst h0
      simp only [Rows.uptoBulkAll, Rows.uptoBulk, List.length_cons, tot, e]
      omega
theorem open_Str {H : Type} {enc : TypeId × Value → H} {W : World} {base : Nat} {spare : Nat → Bool} {held : Bool} (n : Nat) (cs : List Value) (x : DataW H × List MemPlace) (h : DataW.trod enc Try.prog W base spare held n 9 cs = some x) : ∃ a : ByteArray, Kd.string.K W a cs ∧ x.1 = .lit (.string a.data.toList) := by
  obtain ⟨a, q, z, w⟩ := DataW.trod_string Try.underlying9 h
  subst z
  exact ⟨a, by first | exact q | (subst q; rfl), rfl⟩
theorem walk_PackListsUpto {H : Type} {enc : TypeId × Value → H} (W : World) (v0 : Value) (d0 : DataW H) (p0 : List MemPlace)
    (h0 : DataW.Trod enc Try.prog W 0 (fun _ => true) true 32 v0 d0 p0) {base : Nat} (u0 : Value.okWide Try.prog W .any base 32 v0) (hk : Rows.uptoSmall H [d0] = true) :
    Calls Try.prog 4 #[v0] W fun e w' => e = .returned (.bool true) ∧ Below W.heap.size W w' := by
  obtain ⟨a, len, cap, rfl⟩ := WideShapes.okWide_slice Try.underlying32 u0
  obtain ⟨fuel, hf⟩ := h0
  obtain ⟨A, c, l, hcs, hlc, hC, hQ⟩ := open_kd (k := Kd.string) (Q := fun (a : ByteArray) (d : DataW H) => d = .lit (.string a.data.toList)) Try.underlying32 (by kernel_rfl) open_Str hf
  simp only [Value.cells, List.cons.injEq, Value.slice.injEq, and_true] at hcs
  obtain ⟨rfl, rfl, rfl⟩ := hcs
  have hb : Rows.uptoBulkAll [d0] ≤ 1048576 := of_decide_eq_true hk
  refine lists_calls a cap l hlc ?_ W hC
  rcases hQ with ⟨_, rfl⟩ | ⟨ds, sp, hd, hl, hq⟩
  · exact Nat.zero_le _
  · have h1 := bulk_tot l ds hl (fun i h h' => hq i h h')
    dsimp only at hd
    subst hd
    simp only [Rows.uptoBulkAll, Rows.uptoBulk] at hb
    omega
end Go.Proofs.Ytbmodiomoogffaa

/- pack.Writer's Number: a number's bytes are written behind what is there. Conditions: those that the theorem names. -/
import Derived.Test.YtapgmedfedcliaaWw
import Derived.Test.YtapgmedfedcliaaShelf
import Derived.Deep.RegionLaw
import Derived.Deep.AppendLies
import Derived.Deep.LoopGhost
import Derived.WalkLawsBesides
set_option linter.unusedVariables false
set_option linter.unusedSimpArgs false
namespace Go.Proofs.Ytapgmedfedcliaa
open Go.RowKit Go.Proofs.YtapgmedfedcliaaW.PrintWords

theorem Try.infoByte : (Try.prog.info? 5).map (fun i => (i.zero, i.size, i.bytes)) = some (some (.int .u8 0), 1, 1) := by kernel_rfl

theorem halt_ {p : Prop} (h : Hid p) : p := h
theorem nums_snoc (s : ByteArray) (x : Int) (hx : 0 ≤ x ∧ x ≤ 255) : bytesOf s ++ [x] = bytesOf (s ++ strOfNums [x]) := by
  rw [bytesOf_append, bytesOf_nums [x] (by intro y hy; simp at hy; omega)]

theorem own_ne_blk {W : World} {base n g : Nat} {e t : TypeId} {v : Value} {xs : List Value} {cs : Array Value} {fr : Nat × Nat} (h : W.ownsRow base e 1 v n xs) (hb : W.heap[g]? = some (.cells cs t fr)) (ht : t ≠ e) : some g ≠ v.ownBlock := by
  intro he
  rcases h.2 with ⟨rfl, _⟩ | ⟨k', cap, cur, rfl, _, hh, _⟩
  · simp [Value.ownBlock] at he
  · have : g = k' := by simpa [Value.ownBlock] using he
    subst this
    rw [hh] at hb
    injection hb with hb
    injection hb with _ hb
    exact ht hb.symm
/-- What a call that appends and stores leaves. -/
theorem w_end {w0 w W w1 : World} {g : Nat} {s t : ByteArray} {v v1 : Value} (hb : W.heap[g]? = some (.cells #[v] 60 (0, 0))) (hg : w0.heap.size ≤ g) (hlt : g < W.heap.size) (ho : W.ownsRow w0.heap.size 5 1 v s.size (nums .u8 (bytesOf s)))
    (h1 : w1.ownsRow w0.heap.size 5 1 v1 t.size (nums .u8 (bytesOf t))) (hB1 : Below w0.heap.size w0 w1) (hgr : W.grownBy w1 v.ownBlock) (hat : v1.ownBlock = v.ownBlock ∨ ∃ b, v1.ownBlock = some b ∧ W.heap.size ≤ b) (hK : KeepW w W g) :
    IsS60 w0 (w1.setCell ⟨g, 0, none⟩ v1) g t ∧ Below w0.heap.size w0 (w1.setCell ⟨g, 0, none⟩ v1) ∧ KeepW w (w1.setCell ⟨g, 0, none⟩ v1) g := by
  have hne := own_ne_blk ho hb (by decide)
  have hb1 : w1.heap[g]? = some (.cells #[v] 60 (0, 0)) := (hgr.block g hlt hne).trans hb
  refine ⟨IsS60.stored (v := v) hb1 hg h1, hB1.setCell hg _, hK.trans fun _ => ⟨?_, ?_, ?_⟩⟩
  · exact Nat.le_trans hgr.size (by simp [World.setCell])
  · intro i hi hig hir
    rw [rowOf_at hb] at hir
    exact (Below.heap_setCell w1 ⟨g, 0, none⟩ v1 i hig).trans (hgr.block i hi hir)
  · have e : (w1.setCell ⟨g, 0, none⟩ v1).heap[g]? = some (.cells #[v1] 60 (0, 0)) := by
      simp only [World.setCell, Array.getElem?_modify, hb1]
      simp
    rw [rowOf_at e, rowOf_at hb]
    rcases hat with hat | ⟨b, hat, hbb⟩
    · exact .inl hat
    · exact .inr fun b' hb' => by rw [hat] at hb'; injection hb' with hb'; omega

set_option maxHeartbeats 2000000 in
theorem wnum_small (w0 w : World) (g : Nat) (s : ByteArray) (n : Int) (h0 : 0 ≤ n) (h1 : n < 248) (hI : IsS60 w0 w g s) (hB : Below w0.heap.size w0 w) (hl : s.size + 9 ≤ 140737488355328) :
    Calls Try.prog 34 #[.pointer (some ⟨g, 0, none⟩), .int .u64 n] w fun e w' => e = .returned (.tuple #[]) ∧ IsS60 w0 w' g (s ++ strOfNums [n]) ∧ Below w0.heap.size w0 w' ∧ KeepW w w' g := by
  obtain ⟨t, ht⟩ : ∃ t, t = s ++ strOfNums [n] := ⟨_, rfl⟩
  rw [← ht]
  have HT := Lib.hid ht
  obtain ⟨v, hb, hg, ho⟩ := hI
  have hlt : g < w.heap.size := (Array.getElem?_eq_some_iff.1 hb).1
  have hcell := cell_of_one hb
  have hfree := free_of_one hb
  have HO := Lib.hid ho
  have HB := Lib.hid hB
  have Hb := Lib.hid hb
  have hsz : (bytesOf s).length = s.size := bytesOf_length s
  obtain ⟨A, c, rfl⟩ := own_slice ho
  have hbase := hB.size
  have HS := Lib.hid hsz
  clear ho hB hb hsz ht
  go_enter Try.func34, Try.ntmps34
  have HO' : Hid (w.ownsRow w0.heap.size 5 1 (.slice A s.size c) (bytesOf s).length (nums .u8 (bytesOf s))) := by rw [HS.out]; exact HO.out
  go_wp2_with (at_builtin; refine halt_ ?_)
  refine Lib.hid ?_
  refine print_append_num (w0 := w0) w0.heap.size rfl (.tmp 14) (.tmp 17) 31 5 .u8 1 rfl Try.underlying31 Try.infoByte (by omega) (.slice A s.size c) (bytesOf s) n rfl rfl HO'.out HB.out hbase (by rw [HS.out]; omega) ?_
  intro v1 w1 hown hB1 hgr hat
  rw [nums_snoc s n ⟨h0, by omega⟩, ← HT.out, bytesOf_length] at hown
  obtain ⟨A1, c1, rfl⟩ := own_slice hown
  have Hend := Lib.hid (w_end (w := w) (t := t) Hb.out hg hlt HO.out hown hB1 hgr hat (KeepW.refl w g))
  have hb1 : w1.heap[g]? = some (.cells #[.slice A s.size c] 60 (0, 0)) := (hgr.block g hlt (own_ne_blk HO.out Hb.out (by decide))).trans Hb.out
  have hcell1 := cell_of_one hb1
  have hfree1 := free_of_one hb1
  clear hown hB1 hgr hat hb1 hcell hfree
  go_wp2
  refine bodyPost_ret (results_none rfl _ _ _) rfl ?_
  exact ⟨rfl, Hend.out⟩

theorem infoB : (Try.prog.info? 5).map (fun i => (i.zero, i.size, i.bytes)) = some (some (.int .u8 0), 1, 1) := Try.infoByte
theorem shift_byte (n : Int) (h0 : 0 ≤ n) (k j : Nat) (y : Int) (hj : j < k) (hk : k ≤ 8) (hy : y = ((n.toNat / 256 ^ (k - 1 - j) % 256 : Nat) : Int)) :
    ∃ X : Int, Op.shift BinOp.shr IntKind.u64 n IntKind.i64 (IntKind.i64.wrap (8 * ((k : Int) - 1 - j))) = pure (.int .u64 X) ∧ IntKind.u8.wrap X = y ∧ X % 256 = y := by
  refine ⟨((n.toNat / 256 ^ (k - 1 - j) : Nat) : Int), ?_, ?_, ?_⟩
  · have e : IntKind.i64.wrap (8 * ((k : Int) - 1 - j)) = ((8 * (k - 1 - j) : Nat) : Int) := by
      rw [IntKind.wrap_i64]
      omega
    rw [e, shift_shr .u64 .i64 n _ (by omega) (by simp [IntKind.bits]; omega)]
    congr 2
    rw [Int.toNat_natCast, pow256]
    rw [Int.natCast_ediv, Int.toNat_of_nonneg h0]
    simp
  · rw [hy]; exact (Int.natCast_emod _ _).symm
  · rw [hy]; exact (Int.natCast_emod _ _).symm

theorem grown_drew {w w1 : World} {row : Option Nat} (h : w.drew.grownBy w1 row) : w.grownBy w1 row := ⟨h.os, h.tape, h.output, h.size, h.block⟩
/-- What a round leaves. -/
theorem w_round {w0 w wr w3 : World} {g g3 c3 c2 : Nat} {A2 : Option Addr} {u : ByteArray} {y : Int} (hb : wr.heap[g]? = some (.cells #[.slice A2 u.size c2] 60 (0, 0))) (hg : w0.heap.size ≤ g)
    (ho : wr.ownsRow w0.heap.size 5 1 (.slice A2 u.size c2) u.size (nums .u8 (bytesOf u))) (hown : w3.ownsRow w0.heap.size 5 1 (.slice (some ⟨g3, 0, none⟩) (u.size + 1) c3) (u.size + 1) (nums .u8 (bytesOf u) ++ [.int .u8 y]))
    (hgr : wr.grownBy w3 (Value.slice A2 u.size c2).ownBlock) (hat : (Value.slice A2 u.size c2).ownBlock = some g3 ∨ g3 = wr.heap.size + 1) (hB : Below w0.heap.size w0 wr) (hbase : w0.heap.size ≤ wr.heap.size) (hK : KeepW w wr g) (hy : 0 ≤ y ∧ y ≤ 255) :
    IsS60 w0 (w3.setCell ⟨g, 0, none⟩ (.slice (some ⟨g3, 0, none⟩) (u.size + 1) c3)) g (u ++ strOfNums [y]) ∧ Below w0.heap.size w0 (w3.setCell ⟨g, 0, none⟩ (.slice (some ⟨g3, 0, none⟩) (u.size + 1) c3)) ∧ KeepW w (w3.setCell ⟨g, 0, none⟩ (.slice (some ⟨g3, 0, none⟩) (u.size + 1) c3)) g := by
  have hgw : g < wr.heap.size := (Array.getElem?_eq_some_iff.1 hb).1
  refine w_end (W := wr) (s := u) (t := u ++ strOfNums [y]) hb hg hgw ho ?_ (hB.grown hgr hbase (own_base ho)) hgr ?_ hK
  · have e : (u ++ strOfNums [y]).size = u.size + 1 := by rw [ByteArray.size_append, size_nums]; rfl
    rw [e, ← nums_snoc u y hy]
    have e2 : nums .u8 (bytesOf u ++ [y]) = nums .u8 (bytesOf u) ++ [.int .u8 y] := by simp [nums]
    rw [e2]
    exact hown
  · rcases hat with h | h
    · exact .inl h.symm
    · exact .inr ⟨g3, rfl, by omega⟩

/-- The text behind c bytes of the k. -/
def midW (s : ByteArray) (n : Int) (c : Nat) : ByteArray := s ++ strOfNums ((247 + (byteLen n.toNat : Int)) :: beTo (byteLen n.toNat) n.toNat c)
theorem midW_size (s : ByteArray) (n : Int) (c : Nat) : (midW s n c).size = s.size + 1 + c := by
  unfold midW
  rw [ByteArray.size_append, size_nums]; simp [beTo_length]; omega
theorem midW_zero (s : ByteArray) (n : Int) : midW s n 0 = s ++ strOfNums [247 + (byteLen n.toNat : Int)] := by simp [midW, beTo]
theorem midW_succ (s : ByteArray) (n : Int) (c : Nat) : midW s n (c + 1) = midW s n c ++ strOfNums [((n.toNat / 256 ^ (byteLen n.toNat - 1 - c) % 256 : Nat) : Int)] := by
  unfold midW
  rw [beTo_succ, ← List.cons_append, strOfNums_append, ByteArray.append_assoc]
theorem midW_all (s : ByteArray) (n : Int) (h : ¬ n < 248) : midW s n (byteLen n.toNat) = s ++ encB n := by
  unfold midW encB encN
  rw [if_neg h]

set_option maxHeartbeats 4000000 in
theorem wnum_big (w0 w : World) (g : Nat) (s : ByteArray) (n : Int) (h0 : 248 ≤ n) (h1 : n ≤ 18446744073709551615) (hI : IsS60 w0 w g s) (hB : Below w0.heap.size w0 w) (hl : s.size + 9 ≤ 140737488355328) :
    Calls Try.prog 34 #[.pointer (some ⟨g, 0, none⟩), .int .u64 n] w fun e w' => e = .returned (.tuple #[]) ∧ IsS60 w0 w' g (s ++ encB n) ∧ Below w0.heap.size w0 w' ∧ KeepW w w' g := by
  have h0' : 0 ≤ n := by omega
  obtain ⟨k, hk⟩ : ∃ k, k = byteLen n.toNat := ⟨_, rfl⟩
  have hkr := byteLen_range (x := n.toNat) (by omega) (by omega)
  rw [← hk] at hkr
  have hlen : Hid ((Lib.bitLen n.toNat + 7) / 8 = k) := hk.symm
  have hlen2 : Lib.bitLen n.toNat ≤ 64 := bitLen_le (Nat.le_refl _) (by omega)
  have Hall := Lib.hid (midW_all s n (by omega))
  rw [← hk] at Hall
  obtain ⟨hk1, hk8⟩ := hkr
  have HK := Lib.hid hk
  obtain ⟨t, ht⟩ : ∃ t, t = midW s n 0 := ⟨_, rfl⟩
  have HT := Lib.hid ht
  obtain ⟨v, hb, hg, ho⟩ := hI
  have hlt : g < w.heap.size := (Array.getElem?_eq_some_iff.1 hb).1
  have hcell := cell_of_one hb
  have hfree := free_of_one hb
  have HO := Lib.hid ho
  have HB := Lib.hid hB
  have Hb := Lib.hid hb
  have hsz : (bytesOf s).length = s.size := bytesOf_length s
  obtain ⟨A, c, rfl⟩ := own_slice ho
  have hbase := hB.size
  have HS := Lib.hid hsz
  have HO' : Hid (w.ownsRow w0.heap.size 5 1 (.slice A s.size c) (bytesOf s).length (nums .u8 (bytesOf s))) := by rw [HS.out]; exact HO.out
  have hL : Hid (∀ w, Calls Try.prog 31 #[.int .u64 n] w fun e w' => e = .returned (.int .i64 (Lib.bitLen n.toNat)) ∧ w = w') := fun w => (Try.bits_Len64 n w (by omega) h1).mono fun _ _ ⟨a, b⟩ => ⟨a, b.symm⟩
  generalize Lib.bitLen n.toNat = L at *
  have hq : ((L : Int) + 7) / 8 = (k : Int) := by have := hlen.out; omega
  clear ho hB hb hsz ht hk
  go_enter Try.func34, Try.ntmps34
  go_wp2_with (first | (go_at_call 31; refine (hL.out _).mono ?_; rintro e w' ⟨rfl, rfl⟩) | (at_builtin; refine halt_ ?_))
  refine Lib.hid ?_
  refine print_append_num (w0 := w0) w0.heap.size rfl (.tmp 29) (.tmp 33) 31 5 .u8 1 rfl Try.underlying31 Try.infoByte (by omega) (.slice A s.size c) (bytesOf s) (247 + (k : Int)) rfl rfl HO'.out HB.out hbase (by rw [HS.out]; omega) ?_
  intro v1 w1 hown hB1 hgr hat
  rw [nums_snoc s (247 + (k : Int)) ⟨by omega, by omega⟩, show s ++ strOfNums [247 + (k : Int)] = t from by rw [HT.out, midW_zero, ← HK.out], bytesOf_length] at hown
  obtain ⟨A1, c1, rfl⟩ := own_slice hown
  have Hend := Lib.hid (w_end (w := w) (t := t) Hb.out hg hlt HO.out hown hB1 hgr hat (KeepW.refl w g))
  have hb1 : w1.heap[g]? = some (.cells #[.slice A s.size c] 60 (0, 0)) := (hgr.block g hlt (own_ne_blk HO.out Hb.out (by decide))).trans Hb.out
  have hcell1 := cell_of_one hb1
  have hfree1 := free_of_one hb1
  clear hown hB1 hgr hat hb1 hcell hfree
  go_wp2
  clear hcell1 hfree1
  go_loopg [5] (k + 1) (fun gk v5 wr => ∃ (j : Nat), j ≤ k ∧ v5 = .int .i64 ((k : Int) - 1 - j) ∧ Aside0 (j + gk = k + 1) ∧ Aside0 (IsS60 w0 wr g (midW s n j) ∧ Below w0.heap.size w0 wr ∧ KeepW w wr g))
  case atStart => exact ⟨0, by omega, by go_num, ⟨by omega⟩, ⟨by rw [← HT.out]; exact Hend.out⟩⟩
  case round =>
    obtain ⟨j, hj, rfl, ⟨hg2⟩, ⟨hI2, hB2, hK2⟩⟩ := hrel
    clear Hend
    rcases (show j < k ∨ k ≤ j by omega) with hlt2 | hge
    · obtain ⟨v, hb, _, ho⟩ := hI2
      have hgw : g < wr.heap.size := (Array.getElem?_eq_some_iff.1 hb).1
      have hcell := cell_of_one hb
      have hfree := free_of_one hb
      have HO2 := Lib.hid ho
      have HB2 := Lib.hid hB2
      have HK2 := Lib.hid hK2
      have Hb2 := Lib.hid hb
      obtain ⟨u, hu⟩ : ∃ u, u = midW s n j := ⟨_, rfl⟩
      obtain ⟨A2, c2, rfl⟩ := own_slice ho
      rw [← hu] at HO2 Hb2 hcell
      have HU := Lib.hid hu
      have hbase2 := hB2.size
      have hus : u.size + 1 ≤ s.size + 9 := by rw [hu, midW_size]; omega
      have HNE : Hid (some g ≠ (Value.slice A2 u.size c2).ownBlock) := own_ne_blk HO2.out Hb2.out (by decide)
      have HUS := Lib.hid hus
      have Hu2 : Hid ((bytesOf u).length = u.size) := bytesOf_length u
      have HO2' : Hid (wr.ownsRow w0.heap.size 5 1 (.slice A2 u.size c2) (bytesOf u).length (nums .u8 (bytesOf u))) := by rw [Hu2.out]; exact HO2.out
      have HG : Hid (j + gk = k + 1) := hg2
      obtain ⟨y, hy⟩ : ∃ y : Int, y = ((n.toNat / 256 ^ (k - 1 - j) % 256 : Nat) : Int) := ⟨_, rfl⟩
      obtain ⟨X, hsh, hc1, hc2⟩ := shift_byte n h0' k j y hlt2 hk8 hy
      have hyb : 0 ≤ y ∧ y ≤ 255 := by omega
      have HY := Lib.hid hy
      have HYB := Lib.hid hyb
      have hi0 := infoB
      obtain ⟨i0, hi, hz⟩ := Option.map_eq_some_iff.1 hi0
      simp only [Prod.mk.injEq] at hz
      have HZ := Lib.hid hz
      have HI := Lib.hid hi
      clear ho hB2 hK2 hb hu hg2 hy hyb hi0 hi hz
      go_wp2
      go_region_law ((refine step_append_lies _ (by rfl) (.tmp 47) (.tmp 53) 31 (by rfl) w0.heap.size 5 i0 (.int .u8 0) 1 1 Try.underlying31 HI.out HZ.out.1 HZ.out.2.1 HZ.out.2.2 (by rfl) (by omega) (.slice A2 u.size c2) u.size (nums .u8 (bytesOf u)) (by rfl) (HO2.out.drew.alloc _) ⟨wr.heap.size, 0, none⟩ 1 1 [.int .u8 y] (by rfl) (by rfl) (World.news_of_block (heap_alloc_new _ _)) (by intro u hu; simp at hu; subst hu; rfl) (by omega) (by unfold maxLen; omega) (by omega) (by simp; omega) (wr.heap.size + 1) (by simp) ?_; intro g3 c3 w3 hown3 hgr3 hat3 hlt3; have hce3 : w3.cell? ⟨g, 0, none⟩ = some (.slice A2 u.size c2) := (hgr3.cell_far _ (by simp; omega) HNE.out).trans ((World.cell?_alloc_lt wr.drew _ _ hgw).trans hcell); have hfr3 : w3.frozen? ⟨g, 0, none⟩ = false := (hgr3.frozen_far _ (by simp; omega) HNE.out).trans ((frozen?_alloc_cells wr.drew _ _ _).trans hfree)))
      all_goals
        have hgr4 : wr.grownBy w3 (Value.slice A2 u.size c2).ownBlock := grown_drew (World.grownBy.trans (World.grownBy_alloc wr.drew _ _) hgr3)
        have Hend := Lib.hid (w_round Hb2.out hg HO2.out hown3 hgr4 hat3 HB2.out hbase2 HK2.out HYB.out)
        have Hs : Hid (u ++ strOfNums [y] = midW s n (j + 1)) := by show _ = _; rw [midW_succ, HU.out, HY.out, ← HK.out]
        clear hown3 hgr3 hgr4 hat3 hce3 hfr3 hcell hfree hsh hc1 hc2
        go_wp2
        go_roundg (gk - 1)
        case measure => have := HG.out; omega
        case rel => exact ⟨j + 1, by omega, by go_num, ⟨by have := HG.out; omega⟩, ⟨by rw [← Hs.out]; exact Hend.out⟩⟩
    · obtain rfl : k = j := by omega
      have Hf : Hid (IsS60 w0 wr g (s ++ encB n) ∧ Below w0.heap.size w0 wr ∧ KeepW w wr g) := by rw [← Hall.out]; exact ⟨hI2, hB2, hK2⟩
      clear hI2 hB2 hK2 hg2
      go_wp2
      go_end0
      exact ⟨rfl, Hf.out⟩
end Go.Proofs.Ytapgmedfedcliaa

/- The walks of FrameSums (a text's sum is another one when one bit of it is turned) and of FrameTurned (a frame one byte of which is another one isn't read as that many bytes). Condition: the given size bound. -/
import Derived.Test.YtapgmedfedcliaaAx
import Derived.Deep.RegionHeld3
import Derived.OpenShut
set_option linter.unusedVariables false
set_option linter.unusedSimpArgs false
namespace Go.Proofs.Ytapgmedfedcliaa
open Go.RowKit Go.Proofs.YtapgmedfedcliaaW.PrintWords PRd PFr

theorem bytesOf_nats (s : ByteArray) : bytesOf s = (natsOf s).map fun n : Nat => (n : Int) := by
  unfold bytesOf natsOf
  rw [List.map_map]; rfl
theorem natsOf_set (s : ByteArray) (i c : Nat) (hc : c < 256) : natsOf (strOfNums ((bytesOf s).set i (c : Int))) = (natsOf s).set i c := by
  have hb : Bytes ((bytesOf s).set i (c : Int)) := by
    intro x hx
    rcases List.mem_or_eq_of_mem_set hx with h | h
    · exact bytesOf_bytes s x h
    · omega
  have h := bytesOf_nums _ hb
  rw [bytesOf_nats] at h
  apply map_inj (fun n : Nat => (n : Int)) (fun a b h => by have h' : (a : Int) = (b : Int) := h; omega)
  rw [h, bytesOf_nats, List.map_set]
theorem row_cell (W : World) (s : ByteArray) (i : Nat) (hi : i < s.size) : (Lib.bytesWorld W 5 s).cell? ⟨W.heap.size, i, none⟩ = some (.int .u8 (((natsOf s)[i]'(by rw [natsOf_length]; exact hi) : Nat) : Int)) := by
  rw [Lib.bytesWorld_cell W 5 s i hi]
  have h' : i < s.data.toList.length := by rw [data_length]; exact hi
  simp [natsOf, List.getD_eq_getElem?_getD, hi]
theorem cells_size (W : World) (s : ByteArray) : s.size ≤ (Lib.bytesCells W 5 s).size := by
  unfold Lib.bytesCells
  rw [Array.size_append, Array.size_map]
  exact Nat.le_add_right _ _
theorem row_frozen (W : World) (s : ByteArray) (i : Nat) (hi : i < s.size) : (Lib.bytesWorld W 5 s).frozen? ⟨W.heap.size, i, none⟩ = false := by
  have := cells_size W s
  simp only [World.frozen?, Lib.bytesWorld_at_new]
  simp
  omega
theorem turned_reads (W : World) (s : ByteArray) (i : Nat) (c : Int) (hi : i < s.size) (hs : s.size ≤ 9223372036854775807) :
    ReadsInt ((Lib.bytesWorld W 5 s).setCell ⟨W.heap.size, i, none⟩ (.int .u8 c)) .u8 (some ⟨W.heap.size, 0, none⟩) s.size ((bytesOf s).set i c) := by
  refine ⟨by rw [List.length_set]; exact bytesOf_length s, hs, fun _ => ⟨_, rfl, fun j hj => ?_⟩⟩
  rw [add_plain]
  have hr := (bytes_reads W 5 s hs).2.2 (by omega)
  obtain ⟨ad, he, hc⟩ := hr
  injection he with he
  subst he
  have hcj := hc j hj
  rw [add_plain] at hcj
  have hsz := cells_size W s
  simp only [World.cell?, World.setCell, Array.getElem?_modify, Lib.bytesWorld_at_new] at hcj ⊢
  by_cases e : i = j
  · subst e
    simp [show i < (Lib.bytesCells W 5 s).size by omega, List.getD_eq_getElem?_getD, show i < (bytesOf s).length by rw [bytesOf_length]; exact hi]
  · simp [List.getD_eq_getElem?_getD, List.getElem?_set_ne e, Array.getElem?_setIfInBounds_ne e] at hcj ⊢
    exact hcj
theorem xor_u8 (a b : Nat) (ha : a < 256) (hb : b < 256) : Go.bits .xor .u8 (a : Int) (b : Int) = ((a ^^^ b : Nat) : Int) := by
  simp only [Go.bits, BitVec.ofInt_natCast, BitVec.toNat_xor, BitVec.toNat_ofNat]
  rw [IntKind.wrap_u8, Nat.mod_eq_of_lt (show a < 2 ^ IntKind.u8.bits from ha), Nat.mod_eq_of_lt (show b < 2 ^ IntKind.u8.bits from hb)]
  have h := Nat.xor_lt_two_pow (x := a) (y := b) (n := 8) ha hb
  rw [Int.emod_eq_of_lt (by omega)]
  have : (2 : Nat) ^ 8 = 256 := by decide
  omega
theorem xor_lt8 {a b : Nat} (ha : a < 256) (hb : b < 256) : a ^^^ b < 256 := Nat.xor_lt_two_pow (n := 8) ha hb
theorem xor_ne (a b : Nat) (hb : b ≠ 0) : a ^^^ b ≠ a := by
  intro h
  have := congrArg (a ^^^ ·) h
  simp [← Nat.xor_assoc] at this
  exact hb this
/-- The sum of a text one byte of which is another one is another one. -/
theorem sum_turned (s : ByteArray) (i y : Nat) (hi : i < s.size) (hy : y < 256) (hy0 : y ≠ 0) : ∀ (h : i < (natsOf s).length), sumN (strOfNums ((bytesOf s).set i (((natsOf s)[i] ^^^ y : Nat) : Int))) ≠ sumN s := by
  intro h he
  have hb := natsOf_lt s _ (List.getElem_mem h)
  have e := natsOf_set s i ((natsOf s)[i] ^^^ y) (xor_lt8 hb hy)
  have hs : natsOf s = (natsOf s).take i ++ (natsOf s)[i] :: (natsOf s).drop (i + 1) := by
    rw [← List.drop_eq_getElem_cons h, List.take_append_drop]
  have e2 : (natsOf s).set i ((natsOf s)[i] ^^^ y) = (natsOf s).take i ++ ((natsOf s)[i] ^^^ y) :: (natsOf s).drop (i + 1) := by rw [List.set_eq_take_append_cons_drop, if_pos h]
  rw [e2] at e
  exact xor_ne _ _ hy0 (sumN_one _ _ _ _ _ _ e hs he)
theorem turned_law (p : ByteArray) (hp : p.size ≤ 3000) (i y : Nat) (hi : i < (frm p).size) (hy : y < 256) (hy0 : y ≠ 0) (h : i < (natsOf (frm p)).length) (s' : ByteArray) (hs' : s' = strOfNums ((bytesOf (frm p)).set i (((natsOf (frm p))[i] ^^^ y : Nat) : Int))) :
    (nxt s').2.2 ≠ 0 ∧ (nxt s').2.1 = 0 ∨ (nxt s').2.1 ≠ ((frm p).size : Int) := by
  by_cases he : (nxt s').2.2 = 0
  · right
    intro hn
    obtain ⟨t, e1, e2, e3⟩ := nxt_inv s' he
    have hsz : s'.size = (frm p).size := by rw [hs', size_nums, List.length_set, bytesOf_length]
    have ht : t.size = 0 := by
      have := congrArg ByteArray.size e1
      rw [ByteArray.size_append] at this
      omega
    rw [size0 ht, ByteArray.append_empty] at e1
    have hb := natsOf_lt (frm p) _ (List.getElem_mem h)
    have e := natsOf_set (frm p) i ((natsOf (frm p))[i] ^^^ y) (xor_lt8 hb hy)
    rw [← hs', e1] at e
    refine frm_turned p (nxt s').1 i _ hi (xor_lt8 hb hy) ?_ e
    rw [List.getElem?_eq_getElem h]
    intro hq
    injection hq with hq
    exact xor_ne _ _ hy0 hq.symm
  · exact .inl ⟨he, (nxt_err s' he).2⟩

set_option maxRecDepth 100000 in
set_option maxHeartbeats 4000000 in
theorem turned_calls (p : ByteArray) (hp : p.size ≤ 140737488351232) (i b : Int) (hi : -9223372036854775808 ≤ i ∧ i ≤ 9223372036854775807) (hb : 0 ≤ b ∧ b ≤ 255) (w : World) :
    Calls Try.prog 4 #[.string p, .int .i64 i, .int .u8 b] w fun e w' => e = .returned (.bool true) ∧ Below w.heap.size w w' := by
  go_enter Try.func4, Try.ntmps4
  go_wp2_with fail
  refine (awake_calls _).mono ?_
  rintro e w1 ⟨rfl, hB⟩
  have HB1 := Lib.hid hB
  clear hB
  rcases (show 3000 < p.size ∨ p.size ≤ 3000 by omega) with hl | hl
  · go_wp2_with fail
    go_ret
    exact ⟨rfl, HB1.out⟩
  · have hwp : wrp p = (frm p, 0) := by unfold wrp; rw [if_neg (by omega)]
    have hsz := frm_size p
    have hes := encB_size (n := (p.size : Int)) (by omega)
    have hfs : (frm p).size ≤ 4000 := by omega
    have HWP := Lib.hid hwp
    clear hwp hsz hes
    go_wp2_with fail
    refine (wrap_calls p _).mono ?_
    rw [HWP.out]
    rintro e w2 ⟨rfl, hB⟩
    have HB2 := Lib.hid (below_step HB1.out hB)
    clear hB HB1
    have HLW := Lib.hid (turned_law p hl)
    generalize frm p = s at *
    rcases (show i < 0 ∨ (0 ≤ i ∧ (s.size : Int) ≤ i) ∨ (0 ≤ i ∧ i < s.size ∧ b = 0) ∨ (0 ≤ i ∧ i < s.size ∧ b ≠ 0) by omega) with hc | ⟨hc, hd⟩ | ⟨hc, hd, rfl⟩ | ⟨hi0, hi1, hb0⟩
    · go_wp2_with fail
      go_ret
      exact ⟨rfl, HB2.out⟩
    · go_wp2_with fail
      go_ret
      exact ⟨rfl, HB2.out⟩
    · go_wp2_with fail
      go_ret
      exact ⟨rfl, HB2.out⟩
    · have kb := fun W => print_bytes (P := Try.prog) 9 31 5 Try.underlying9 Try.underlying31 Try.underlying5 s W
      obtain ⟨j, rfl⟩ : ∃ j : Nat, i = (j : Int) := ⟨i.toNat, by omega⟩
      obtain ⟨y, rfl⟩ : ∃ y : Nat, b = (y : Int) := ⟨b.toNat, by omega⟩
      have hj : j < s.size := by omega
      have cb := row_cell w2 s j hj
      have fb := row_frozen w2 s j hj
      have HRd := Lib.hid (fun c => turned_reads w2 s j c hj (by omega))
      have HBW := Lib.hid (fun c => (bytes_below HB2.out HB2.out.size 5 s).setCell (p := ⟨w2.heap.size, j, none⟩) HB2.out.size (.int .u8 c))
      have hjl : j < (natsOf s).length := by rw [natsOf_length]; exact hj
      have hlt := natsOf_lt s _ (List.getElem_mem hjl)
      have HLW2 := Lib.hid (HLW.out j y hj (by omega) (by omega) hjl)
      have hx := xor_u8 _ y hlt (by omega)
      generalize (natsOf s)[j] = b0 at *
      generalize b0 ^^^ y = c at *
      clear HLW
      have hy0 : ((y : Int) == 0) = false := by simp; omega
      have hcv := string_of_reads (P := Try.prog) (src := 31) (dst := 9) (c := grownCap w2 s.size 0 5) Try.underlying31 Try.underlying5 Try.underlying9 (HRd.out (c : Int))
      have hts : (strOfNums ((bytesOf s).set j (c : Int))).size ≤ 140737488355328 := by rw [size_nums, List.length_set, bytesOf_length]; omega
      have HL3 := Lib.hid (HLW2.out _ rfl)
      generalize strOfNums ((bytesOf s).set j (c : Int)) = S at *
      have HB3 := Lib.hid (HBW.out (c : Int))
      clear HLW2 HRd HBW
      go_wp2_with fail
      generalize ((Lib.bytesWorld w2 5 s).setCell ⟨w2.heap.size, j, none⟩ (.int .u8 (c : Int))) = w3 at *
      refine (next_calls S hts _).mono ?_
      rintro e w4 ⟨rfl, hB⟩
      have HB4 := Lib.hid (below_step HB3.out hB)
      clear hB HB3 HB2 hcv cb fb
      rw [nxtV]
      generalize nxt S = V at *
      obtain ⟨v0, v1, v2⟩ := V
      dsimp only at *
      rcases HL3.out with ⟨h1, h2⟩ | h1
      · subst h2
        have c1 : (v2 == 0) = false := beq_eq_false_iff_ne.mpr h1
        have c2 : (v2 != 0) = true := bne_iff_ne.mpr h1
        go_wp2_with fail
        go_ret
        exact ⟨rfl, HB4.out⟩
      · have c1 : (v1 == (s.size : Int)) = false := beq_eq_false_iff_ne.mpr h1
        have c2 : (v1 != (s.size : Int)) = true := bne_iff_ne.mpr h1
        clear HL3
        go_wp2_with fail
        all_goals go_ret
        all_goals exact ⟨rfl, HB4.out⟩
theorem walk_FrameTurned (p : ByteArray) (i b : Int) (hp : p.size ≤ 140737488351232) (hi : (Lit.int .i64 i).wf = true) (hb : (Lit.int .u8 b).wf = true) (w : World) :
    Calls Try.prog 4 #[.string p, .int .i64 i, .int .u8 b] w fun e w' => e = .returned (.bool true) ∧ Below w.heap.size w w' :=
  turned_calls p hp i b (Go.bounds_i64 hi) (Go.bounds_u8 hb) w

theorem shl_u8 (c : Nat) (h : c < 8) : Op.shift BinOp.shl IntKind.u8 1 IntKind.i64 (c : Int) = pure (.int .u8 ((2 ^ c : Nat) : Int)) := by
  rcases (show c = 0 ∨ c = 1 ∨ c = 2 ∨ c = 3 ∨ c = 4 ∨ c = 5 ∨ c = 6 ∨ c = 7 by omega) with rfl | rfl | rfl | rfl | rfl | rfl | rfl | rfl <;> rfl
theorem sum_nil : sumN ⟨#[]⟩ = 0 := by decide
set_option maxRecDepth 100000 in
set_option maxHeartbeats 4000000 in
theorem sums_calls (s : ByteArray) (hs : s.size ≤ 140737488351232) (i b : Int) (hi : -9223372036854775808 ≤ i ∧ i ≤ 9223372036854775807) (hb : -9223372036854775808 ≤ b ∧ b ≤ 9223372036854775807) (w : World) :
    Calls Try.prog 6 #[.string s, .int .i64 i, .int .i64 b] w fun e w' => e = .returned (.bool true) ∧ Below w.heap.size w w' := by
  go_enter Try.func6, Try.ntmps6
  go_wp2_with fail
  refine (awake_calls _).mono ?_
  rintro e w1 ⟨rfl, hB⟩
  have HB1 := Lib.hid hB
  clear hB
  have HS0 := Lib.hid ((sum_calls ⟨#[]⟩ (by decide) w1).mono (R' := fun e w' => e = .returned (.int .u32 0) ∧ Below w1.heap.size w1 w') (fun e w' h => by rw [sum_nil] at h; exact h))
  rcases (show 2000 < s.size ∨ (s.size ≤ 2000 ∧ i < 0) ∨ (s.size ≤ 2000 ∧ 0 ≤ i ∧ (s.size : Int) ≤ i) ∨ (s.size ≤ 2000 ∧ 0 ≤ i ∧ i < s.size) by omega) with hc | ⟨hc, hd⟩ | ⟨hc, hd, he⟩ | ⟨hl, hi0, hi1⟩
  · go_wp2_with fail
    refine HS0.out.mono ?_
    rintro e w2 ⟨rfl, hB⟩
    have HB2 := Lib.hid (below_step HB1.out hB)
    clear hB
    go_wp2_with fail
    go_ret
    exact ⟨rfl, HB2.out⟩
  · go_wp2_with fail
    refine HS0.out.mono ?_
    rintro e w2 ⟨rfl, hB⟩
    have HB2 := Lib.hid (below_step HB1.out hB)
    clear hB
    go_wp2_with fail
    go_ret
    exact ⟨rfl, HB2.out⟩
  · go_wp2_with fail
    refine HS0.out.mono ?_
    rintro e w2 ⟨rfl, hB⟩
    have HB2 := Lib.hid (below_step HB1.out hB)
    clear hB
    go_wp2_with fail
    go_ret
    exact ⟨rfl, HB2.out⟩
  · have kb := fun W => print_bytes (P := Try.prog) 9 31 5 Try.underlying9 Try.underlying31 Try.underlying5 s W
    clear HS0
    obtain ⟨j, rfl⟩ : ∃ j : Nat, i = (j : Int) := ⟨i.toNat, by omega⟩
    have hj : j < s.size := by omega
    obtain ⟨t, ht⟩ : ∃ t, Int.tmod b 8 = t := ⟨_, rfl⟩
    have ht2 : -7 ≤ t ∧ t ≤ 7 := by have h1 := Int.tmod_lt_of_pos b (show (0 : Int) < 8 by decide); have h2 := Int.lt_tmod_of_pos b (show (0 : Int) < 8 by decide); omega
    have HT := Lib.hid ht
    have htw : IntKind.i64.wrap (t + 8) = t + 8 := by rw [IntKind.wrap_i64]; omega
    have htm : Int.tmod (t + 8) 8 = (t + 8) % 8 := Int.tmod_eq_emod_of_nonneg (by omega)
    obtain ⟨c, hc8⟩ : ∃ c : Nat, Int.tmod (t + 8) 8 = (c : Int) := ⟨(Int.tmod (t + 8) 8).toNat, by omega⟩
    have hc7 : c < 8 := by omega
    clear htm
    have hsh := shl_u8 c hc7
    have hy : 2 ^ c < 256 := by rcases (show c = 0 ∨ c = 1 ∨ c = 2 ∨ c = 3 ∨ c = 4 ∨ c = 5 ∨ c = 6 ∨ c = 7 by omega) with rfl | rfl | rfl | rfl | rfl | rfl | rfl | rfl <;> decide
    have hy0 : 2 ^ c ≠ 0 := Nat.ne_of_gt (Nat.two_pow_pos c)
    have hsy : IntKind.u8.wrap ((2 : Int) ^ c) = ((2 ^ c : Nat) : Int) := by rcases (show c = 0 ∨ c = 1 ∨ c = 2 ∨ c = 3 ∨ c = 4 ∨ c = 5 ∨ c = 6 ∨ c = 7 by omega) with rfl | rfl | rfl | rfl | rfl | rfl | rfl | rfl <;> rfl
    generalize (2 : Nat) ^ c = y at *
    have cb := row_cell w1 s j hj
    have fb := row_frozen w1 s j hj
    have HRd := Lib.hid (fun c => turned_reads w1 s j c hj (by omega))
    have HBW := Lib.hid (fun c => (bytes_below HB1.out HB1.out.size 5 s).setCell (p := ⟨w1.heap.size, j, none⟩) HB1.out.size (.int .u8 c))
    have hjl : j < (natsOf s).length := by rw [natsOf_length]; exact hj
    have hlt := natsOf_lt s _ (List.getElem_mem hjl)
    have HLW := Lib.hid (sum_turned s j y hj hy hy0 hjl)
    have hx := xor_u8 _ y hlt hy
    generalize (natsOf s)[j] = b0 at *
    generalize b0 ^^^ y = x at *
    have HRW : Hid (ReadsInt ((Lib.bytesWorld w1 5 s).setCell ⟨w1.heap.size, j, none⟩ (.int .u8 (x : Int))).drew .u8 (some ⟨w1.heap.size, 0, none⟩) s.size ((bytesOf s).set j (x : Int))) := HRd.out (x : Int)
    have hts : (strOfNums ((bytesOf s).set j (x : Int))).size ≤ 140737488355328 := by rw [size_nums, List.length_set, bytesOf_length]; omega
    have HB3 := Lib.hid (below_drew1 (HBW.out (x : Int)))
    clear HRd HBW hy hy0
    go_wp2_with fail
    go_region
    generalize (((Lib.bytesWorld w1 5 s).setCell ⟨w1.heap.size, j, none⟩ (.int .u8 (x : Int))).drew) = w3 at *
    have hcv := string_of_reads (P := Try.prog) (src := 31) (dst := 9) (c := grownCap w1 s.size 0 5) Try.underlying31 Try.underlying5 Try.underlying9 (show ReadsInt w3.drew .u8 (some ⟨w1.heap.size, 0, none⟩) s.size ((bytesOf s).set j (x : Int)) from HRW.out)
    have hcv0 := string_of_reads (P := Try.prog) (src := 31) (dst := 9) (c := grownCap w1 s.size 0 5) Try.underlying31 Try.underlying5 Try.underlying9 HRW.out
    generalize strOfNums ((bytesOf s).set j (x : Int)) = S at *
    clear kb cb fb HRW hx hsh
    go_wp2_with fail
    refine (sum_calls S hts _).mono ?_
    rintro e w4 ⟨rfl, hB⟩
    have HB4 := Lib.hid (below_step (by first | exact HB3.out | exact below_drew1 HB3.out) hB)
    clear hB hcv hcv0 HB3
    go_wp2_with fail
    refine (sum_calls s (by omega) _).mono ?_
    rintro e w5 ⟨rfl, hB⟩
    have HB5 := Lib.hid (below_step HB4.out hB)
    clear hB HB4
    have hne := HLW.out
    have c1 : (((sumN S : Nat) : Int) == ((sumN s : Nat) : Int)) = false := beq_eq_false_iff_ne.mpr (by omega)
    have c2 : (((sumN S : Nat) : Int) != ((sumN s : Nat) : Int)) = true := bne_iff_ne.mpr (by omega)
    clear hne
    generalize sumN S = u at *
    generalize sumN s = v at *
    go_wp2
    go_ret
    exact ⟨by first | rfl | (simp only [c1, c2]; done) | (simp [c1, c2]; done), HB5.out⟩
theorem walk_FrameSums (s : ByteArray) (i b : Int) (hs : s.size ≤ 140737488351232) (hi : (Lit.int .i64 i).wf = true) (hb : (Lit.int .i64 b).wf = true) (w : World) :
    Calls Try.prog 6 #[.string s, .int .i64 i, .int .i64 b] w fun e w' => e = .returned (.bool true) ∧ Below w.heap.size w w' :=
  sums_calls s hs i b (Go.bounds_i64 hi) (Go.bounds_i64 hb) w
end Go.Proofs.Ytapgmedfedcliaa

/- Contracts of Go functions and what each computes, as plain Lean functions: written by a program of this session over the kit's own print. Conditions: those that each theorem names. -/
import Derived.Test.YtjfokbkfniilhaaPLax0
namespace Go.Proofs.Ytjfokbkfniilhaa.PLa
open Go.Proofs.Ytjfokbkfniilhaa Go.Proofs.Ytjfokbkfniilhaa.PRd Go.Proofs.Ytjfokbkfniilhaa.PRt
open Go.RowKit Go.Proofs.YtjfokbkfniilhaaW.PrintWords Go.Proofs.YtjfokbkfniilhaaW.PrintLast Go.Proofs.YtjfokbkfniilhaaW.PrintMore
attribute [local go_sem] max2_int min2_int max_two min_two max_three min_three max_four min_four   -- for this text's walks alone
set_option linter.unusedVariables false
set_option linter.unusedSimpArgs false

/-! ### bits_Len64: function 41 -/


/-! ### pack_Reader_fail: function 50 -/


/-! ### pack_Reader_Number: function 29 -/
def pack_Reader_Number.f (s0_0 : ByteArray) (s0_1 : Int) (a1 : Int) : Option (Int × ByteArray × Int) := if 0 ≤ a1 then (if a1 ≤ 18446744073709551615 then some (rdNum s0_0 s0_1 a1) else none) else none
theorem pack_Reader_Number.calls (g : Nat) (s0_0 : ByteArray) (s0_1 : Int) (a1 : Int) (r1 : Int) (r2 : ByteArray) (r3 : Int) (w0 w : World) (hI : IsS92 w0 w g s0_0 s0_1) (hB : Below w0.heap.size w0 w) (h : pack_Reader_Number.f s0_0 s0_1 a1 = some (r1, r2, r3)) :
    Calls Try.prog 29 #[.pointer (some ⟨g, 0, none⟩), .int .u64 a1] w fun e w' => e = .returned (.int .u64 r1) ∧ IsS92 w0 w' g r2 r3 ∧ Below w0.heap.size w0 w' ∧ KeepBut w w' g none := by
  unfold pack_Reader_Number.f at h
  split at h
  · split at h
    · have h2 : rdNum s0_0 s0_1 a1 = (r1, r2, r3) := Option.some.inj h
      have := rnumber w0 w g s0_0 s0_1 a1 (by assumption) (by assumption) hI hB
      rw [h2] at this
      exact this
    · cases h
  · cases h


/-! ### pack_Reader_Err: function 51 -/


/-! ### pack_Reader_Flag: function 30 -/


/-! ### pack_Reader_Text: function 52 -/


/-! ### pack_Reader_Count: function 53 -/


/-! ### letter_txn: function 54 -/
def letter_txn.f (s0_0 : ByteArray) (s0_1 : Int) : Option (Int × Int × ByteArray × Int) := (pack_Reader_Number.f s0_0 s0_1 4294967295).bind fun bt102 => ((pack_Reader_Number.f bt102.2.1 bt102.2.2 4294967295).bind fun bt105 => (some ((bt102.1) % 4294967296, (bt105.1) % 4294967296, bt105.2.1, bt105.2.2)))
set_option maxHeartbeats 8000000 in
set_option maxRecDepth 100000 in
theorem letter_txn.calls (g : Nat) (s0_0 : ByteArray) (s0_1 : Int) (r1 : Int) (r2 : Int) (r3 : ByteArray) (r4 : Int) (w0 w : World) (hI : IsS92 w0 w g s0_0 s0_1) (hB : Below w0.heap.size w0 w) (h : letter_txn.f s0_0 s0_1 = some (r1, r2, r3, r4)) :
    Calls Try.prog 54 #[.pointer (some ⟨g, 0, none⟩)] w fun e w' => e = .returned (.agg #[.int .u32 r1, .int .u32 r2]) ∧ IsS92 w0 w' g r3 r4 ∧ Below w0.heap.size w0 w' ∧ KeepBut w w' g none := by
  have hu24 := Try.underlying24
  have HI0 := Aside0.mk hI
  have HK := Aside0.mk (KeepBut.refl w g none)
  have HL := Aside0.mk hB.size
  clear hI
  have HW0 := Aside0.mk hB.size
  have HB := Aside0.mk hB
  clear hB
  have H : ((pack_Reader_Number.f s0_0 s0_1 4294967295).bind fun bt102 => ((pack_Reader_Number.f bt102.2.1 bt102.2.2 4294967295).bind fun bt105 => (some ((bt102.1) % 4294967296, (bt105.1) % 4294967296, bt105.2.1, bt105.2.2)))) = some (r1, r2, r3, r4) := h
  clear h
  replace H := Option.bind_eq_some_iff.mp H
  obtain ⟨⟨t102, t103, t104⟩, A20, H⟩ := H
  replace H : ((pack_Reader_Number.f t103 t104 4294967295).bind fun bt105 => (some ((t102) % 4294967296, (bt105.1) % 4294967296, bt105.2.1, bt105.2.2))) = some (r1, r2, r3, r4) := H
  have A2 := Aside0.mk A20
  clear A20
  replace H := Option.bind_eq_some_iff.mp H
  obtain ⟨⟨t105, t106, t107⟩, A30, H⟩ := H
  replace H : (some ((t102) % 4294967296, (t105) % 4294967296, t106, t107)) = some (r1, r2, r3, r4) := H
  have A3 := Aside0.mk A30
  clear A30
  simp only [Option.some.injEq, Prod.mk.injEq] at H
  obtain ⟨rfl, rfl, rfl, rfl⟩ := H
  go_enter Try.func54, Try.ntmps54
  go_wp2_with (first | ((with_reducible refine gate_dst (N := 2) rfl ?_); refine box_event ?hg (N := 2) ?hd (cs := #[.int .u32 0, .int .u32 0]) (t := 24) ?hr ?_; (case hd => rfl); (case hg => rfl); (case hr => first | (go_simp; done) | (go_simp; rfl)); intro gb101 hg w4 hbox hb; have n0_ := Aside0.mk (IsS92.below (by repeat (first | (with_reducible first | exact HI0.out | apply IsS92.alloc | apply IsS92.drewN | apply IsS92.drew | apply IsS92.set_0 | apply IsS92.set_1) | exact HI0.out)) hb); have n1_ := Aside0.mk (KeepBut.trans (by repeat (first | (with_reducible first | exact HK.out | apply KeepBut.set_ | apply keep_drewN | apply keep_drew | apply keep_alloc) | exact HK.out)) (KeepBut.of_below hb g none) (.inl rfl)); have n2_ := Aside0.mk (below_step (by repeat (first | (with_reducible first | exact HB.out | apply below_alloc | apply pw_below_drewN | apply below_drew1 | refine below_set ?_ (IsS92.ge HI0.out)) | exact HB.out)) hb); have n3_ := Aside0.mk (hbox); have n4_ := Aside0.mk ((by rw [hg]; exact (keep_size (w := w) (g := g) (row := none) (by repeat (first | (with_reducible first | exact HK.out | apply KeepBut.set_ | apply keep_drewN | apply keep_drew | apply keep_alloc) | exact HK.out))) : w.heap.size ≤ gb101)); have n5_ := Aside0.mk ((Nat.le_trans HW0.out (by rw [hg]; exact (keep_size (w := w) (g := g) (row := none) (by repeat (first | (with_reducible first | exact HK.out | apply KeepBut.set_ | apply keep_drewN | apply keep_drew | apply keep_alloc) | exact HK.out))) : w.heap.size ≤ gb101) : w0.heap.size ≤ gb101)); have n6_ := Aside0.mk ((by rw [hg]; exact Nat.ne_of_lt (IsS92.lt (show IsS92 w0 _ g s0_0 s0_1 from by repeat (first | (with_reducible first | exact HI0.out | apply IsS92.alloc | apply IsS92.drewN | apply IsS92.drew | apply IsS92.set_0 | apply IsS92.set_1) | exact HI0.out))) : g ≠ gb101)); have n7_ := Aside0.mk ((by rw [hg]; exact Nat.ne_of_gt (IsS92.lt (show IsS92 w0 _ g s0_0 s0_1 from by repeat (first | (with_reducible first | exact HI0.out | apply IsS92.alloc | apply IsS92.drewN | apply IsS92.drew | apply IsS92.set_0 | apply IsS92.set_1) | exact HI0.out))) : gb101 ≠ g)); clear HI0; clear HK; clear HB; have HI0 := n0_; have HK := n1_; have HB := n2_; have BK101 := n3_; have GW101 := n4_; have GE101 := n5_; have NB0_101 := n6_; have NB101_0 := n7_; clear n0_ n1_ n2_ n3_ n4_ n5_ n6_ n7_; clear hb hbox hg) | ((with_reducible refine gate_callee (f := 29) rfl ?_); refine goesL_ (some 5) rfl rfl Try.func29 (by kernel_rfl) rfl #[.pointer (some ⟨g, 0, none⟩), .int .u64 4294967295] rfl (by (try simp only [List.map_toArray, List.map_cons, List.map_nil]); first | done | rfl | (simp only [List.length_drop, List.length_take]; rfl)) ?_; (with_reducible refine (pack_Reader_Number.calls g s0_0 s0_1 4294967295 t102 t103 t104 w0 _ ?side1 ?side2 A2.out).mono ?_); (case side1 => repeat (first | (with_reducible first | exact HI0.out | apply IsS92.alloc | apply IsS92.drewN | apply IsS92.drew | apply IsS92.set_0 | apply IsS92.set_1 | refine IsS92.far ?_ NB0_101.out _) | exact HI0.out)); (case side2 => repeat (first | (with_reducible first | exact HB.out | apply below_alloc | apply pw_below_drewN | apply below_drew1 | refine below_set ?_ (IsS92.ge HI0.out) | refine below_set ?_ GE101.out) | exact HB.out)); rintro e w5 ⟨rfl, hi, hb, hk⟩; refine ⟨_, rfl, ?_⟩; have n0_ := Aside0.mk (KeepBut.blk hk (g' := gb101) (o := .cells #[.int .u32 0, .int .u32 0] 24 (0, 0)) (by (with_reducible repeat (first | refine blk_drewN ?_ _ | refine blk_drew ?_ | refine blk_alloc ?_ _)); exact BK101.out) NB101_0.out (by simp)); have n1_ := Aside0.mk (KeepBut.trans (by repeat (first | (with_reducible first | exact HK.out | apply KeepBut.set_ | apply keep_drewN | apply keep_drew | apply keep_alloc | refine keep_far ?_ GW101.out _) | exact HK.out)) hk (.inl rfl)); have n2_ := Aside0.mk (hb); have n3_ := Aside0.mk (hi); clear BK101; clear HK; clear HB; clear HI0; have BK101 := n0_; have HK := n1_; have HB := n2_; have HI0 := n3_; clear n0_ n1_ n2_ n3_; (try clear hb); (try clear hb2); (try clear hk); (try clear hi)) | ((with_reducible refine gate_callee (f := 29) rfl ?_); refine goesL_ (some 9) rfl rfl Try.func29 (by kernel_rfl) rfl #[.pointer (some ⟨g, 0, none⟩), .int .u64 4294967295] rfl (by (try simp only [List.map_toArray, List.map_cons, List.map_nil]); first | done | rfl | (simp only [List.length_drop, List.length_take]; rfl)) ?_; (with_reducible refine (pack_Reader_Number.calls g t103 t104 4294967295 t105 t106 t107 w0 _ ?side1 ?side2 A3.out).mono ?_); (case side1 => repeat (first | (with_reducible first | exact HI0.out | apply IsS92.alloc | apply IsS92.drewN | apply IsS92.drew | apply IsS92.set_0 | apply IsS92.set_1 | refine IsS92.far ?_ NB0_101.out _) | exact HI0.out)); (case side2 => repeat (first | (with_reducible first | exact HB.out | apply below_alloc | apply pw_below_drewN | apply below_drew1 | refine below_set ?_ (IsS92.ge HI0.out) | refine below_set ?_ GE101.out) | exact HB.out)); rintro e w6 ⟨rfl, hi, hb, hk⟩; refine ⟨_, rfl, ?_⟩; have n0_ := Aside0.mk (KeepBut.blk hk (g' := gb101) (o := .cells #[.int .u32 0, .int .u32 0] 24 (0, 0)) (by (with_reducible repeat (first | refine blk_drewN ?_ _ | refine blk_drew ?_ | refine blk_alloc ?_ _)); exact BK101.out) NB101_0.out (by simp)); have n1_ := Aside0.mk (KeepBut.trans (by repeat (first | (with_reducible first | exact HK.out | apply KeepBut.set_ | apply keep_drewN | apply keep_drew | apply keep_alloc | refine keep_far ?_ GW101.out _) | exact HK.out)) hk (.inl rfl)); have n2_ := Aside0.mk (hb); have n3_ := Aside0.mk (hi); clear BK101; clear HK; clear HB; clear HI0; have BK101 := n0_; have HK := n1_; have HB := n2_; have HI0 := n3_; clear n0_ n1_ n2_ n3_; (try clear hb); (try clear hb2); (try clear hk); (try clear hi); have hnb7 := NB101_0.out; have hnc7 := NB0_101.out; have hcz8_0 : w6.cell? ⟨gb101, 0, none⟩ = some (.int .u32 0) := (blk_cell BK101.out 0).trans rfl; have hcz8_1 : w6.cell? ⟨gb101, 1, none⟩ = some (.int .u32 0) := (blk_cell BK101.out 1).trans rfl; have hfz8_0 := blk_frozen BK101.out 0; have hfz8_1 := blk_frozen BK101.out 1))
  refine bodyPost_ret (results_cell_row rfl _ _ gb101 24 #[.int .u32 ((t102) % 4294967296), .int .u32 ((t105) % 4294967296)] (0, 0) _ rfl (by (with_reducible repeat (first | refine blk_drewN ?_ _ | refine blk_drew ?_ | refine blk_alloc ?_ _)); refine blk_put (cs := #[.int .u32 ((t102) % 4294967296), .int .u32 0]) ?_ 1 _ rfl; (with_reducible repeat (first | refine blk_drewN ?_ _ | refine blk_drew ?_ | refine blk_alloc ?_ _)); refine blk_put (cs := #[.int .u32 0, .int .u32 0]) ?_ 0 _ rfl; (with_reducible repeat (first | refine blk_drewN ?_ _ | refine blk_drew ?_ | refine blk_alloc ?_ _)); exact BK101.out) Try.underlying24 rfl (by kernel_rfl)) rfl ?_
  exact ⟨by first | rfl | (simp [errW_none, errW_some] <;> rfl) | (simp [*, errW_none, errW_some] <;> rfl), by repeat (first | (with_reducible first | exact HI0.out | apply IsS92.alloc | apply IsS92.drewN | apply IsS92.drew | apply IsS92.set_0 | apply IsS92.set_1 | refine IsS92.far ?_ NB0_101.out _) | exact HI0.out), by repeat (first | (with_reducible first | exact HB.out | apply below_alloc | apply pw_below_drewN | apply below_drew1 | refine below_set ?_ (IsS92.ge HI0.out) | refine below_set ?_ GE101.out) | exact HB.out), by repeat (first | (with_reducible first | exact HK.out | apply KeepBut.set_ | apply keep_drewN | apply keep_drew | apply keep_alloc | refine keep_far ?_ GW101.out _) | exact HK.out)⟩

/-! ### pack_Reader_Stamp: function 55 -/


/-! ### letter_readAsk: function 32 -/
mutual
def letter_readAsk.l0 : Nat → Int → Int → ByteArray → Int → Int → Int → Int → Int → Int → Int → Int → ByteArray → ByteArray → Int → Int → List (S66) → Option (Int × Int × Int × Int × Int × Int × Int × ByteArray × ByteArray × Int × Int × (List (S66)) × (List (S24)) × ByteArray × Int)
  | 0, _, _, _, _, _, _, _, _, _, _, _, _, _, _, _, _ => none
  | k + 1, x25, x26, x1000, x1001, x137000, x137001, x137002, x137003, x137004, x137005, x137006, x137007, x137008, x137009, x137010, x137011 => if x26 < x25 then ((pack_Reader_Text.f k x1000 x1001 0 32).bind fun bt140 => ((pack_Reader_Flag.f bt140.2.1 bt140.2.2).bind fun bt143 => ((pack_Reader_Text.f k bt143.2.1 bt143.2.2 0 256).bind fun bt146 => (if x137011.length < 3518437208883 then (letter_readAsk.l0 k x25 (wrap64 (x26 + 1)) bt146.2.1 bt146.2.2 x137000 x137001 x137002 x137003 x137004 x137005 x137006 x137007 x137008 x137009 x137010 (x137011 ++ [(⟨bt140.1, bt146.1, bt143.1⟩ : S66)])) else (none))))) else ((pack_Reader_Count.f x1000 x1001 16).bind fun bt152 => (letter_readAsk.l1 k bt152.1 0 bt152.2.1 bt152.2.2 x137000 x137001 x137002 x137003 x137004 x137005 x137006 x137007 x137008 x137009 x137010 x137011 ([] : List (S24))))
def letter_readAsk.l1 : Nat → Int → Int → ByteArray → Int → Int → Int → Int → Int → Int → Int → Int → ByteArray → ByteArray → Int → Int → List (S66) → List (S24) → Option (Int × Int × Int × Int × Int × Int × Int × ByteArray × ByteArray × Int × Int × (List (S66)) × (List (S24)) × ByteArray × Int)
  | 0, _, _, _, _, _, _, _, _, _, _, _, _, _, _, _, _, _ => none
  | k + 1, x42, x43, x1000, x1001, x137000, x137001, x137002, x137003, x137004, x137005, x137006, x137007, x137008, x137009, x137010, x137011, x137012 => if x43 < x42 then ((letter_txn.f x1000 x1001).bind fun bt155 => (if x137012.length < 17592186044416 then (letter_readAsk.l1 k x42 (wrap64 (x43 + 1)) bt155.2.2.1 bt155.2.2.2 x137000 x137001 x137002 x137003 x137004 x137005 x137006 x137007 x137008 x137009 x137010 x137011 (x137012 ++ [(⟨bt155.1, bt155.2.1⟩ : S24)])) else (none))) else (some (x137000, x137001, x137002, x137003, x137004, x137005, x137006, x137007, x137008, x137009, x137010, x137011, x137012, x1000, x1001))
end
def letter_readAsk.f (k : Nat) (s0_0 : ByteArray) (s0_1 : Int) : Option (Int × Int × Int × Int × Int × Int × Int × ByteArray × ByteArray × Int × Int × (List (S66)) × (List (S24)) × ByteArray × Int) := (pack_Reader_Number.f s0_0 s0_1 9).bind fun bt109 => ((letter_txn.f bt109.2.1 bt109.2.2).bind fun bt112 => ((pack_Reader_Stamp.f bt112.2.2.1 bt112.2.2.2).bind fun bt116 => ((pack_Reader_Stamp.f bt116.2.2.1 bt116.2.2.2).bind fun bt120 => ((pack_Reader_Text.f k bt120.2.2.1 bt120.2.2.2 0 32).bind fun bt124 => ((pack_Reader_Text.f k bt124.2.1 bt124.2.2 0 32).bind fun bt127 => ((pack_Reader_Number.f bt127.2.1 bt127.2.2 32).bind fun bt130 => ((pack_Reader_Number.f bt130.2.1 bt130.2.2 255).bind fun bt133 => ((pack_Reader_Count.f bt133.2.1 bt133.2.2 16).bind fun bt137 => (letter_readAsk.l0 k bt137.1 0 bt137.2.1 bt137.2.2 (wrap64 (bt109.1)) bt112.1 bt112.2.1 bt116.1 bt116.2.1 bt120.1 bt120.2.1 bt124.1 bt127.1 (wrap64 (bt130.1)) ((bt133.1) % 256) ([] : List (S66)))))))))))
theorem letter_readAsk.mono_l : ∀ k, (∀ y0 y1 y2 y3 y4 y5 y6 y7 y8 y9 y10 y11 y12 y13 y14 y15, LeO (letter_readAsk.l0 k y0 y1 y2 y3 y4 y5 y6 y7 y8 y9 y10 y11 y12 y13 y14 y15) (letter_readAsk.l0 (k + 1) y0 y1 y2 y3 y4 y5 y6 y7 y8 y9 y10 y11 y12 y13 y14 y15)) ∧ (∀ y0 y1 y2 y3 y4 y5 y6 y7 y8 y9 y10 y11 y12 y13 y14 y15 y16, LeO (letter_readAsk.l1 k y0 y1 y2 y3 y4 y5 y6 y7 y8 y9 y10 y11 y12 y13 y14 y15 y16) (letter_readAsk.l1 (k + 1) y0 y1 y2 y3 y4 y5 y6 y7 y8 y9 y10 y11 y12 y13 y14 y15 y16))
  | 0 => ⟨fun _ _ _ _ _ _ _ _ _ _ _ _ _ _ _ _ r h => by simp [letter_readAsk.l0] at h, fun _ _ _ _ _ _ _ _ _ _ _ _ _ _ _ _ _ r h => by simp [letter_readAsk.l1] at h⟩
  | k + 1 => by
    obtain ⟨ih0, ih1⟩ := letter_readAsk.mono_l k
    refine ⟨?_, ?_⟩
    · intro y0 y1 y2 y3 y4 y5 y6 y7 y8 y9 y10 y11 y12 y13 y14 y15
      unfold letter_readAsk.l0
      repeat' first
      | (with_reducible exact ih0 _ _ _ _ _ _ _ _ _ _ _ _ _ _ _ _)
      | (with_reducible exact ih1 _ _ _ _ _ _ _ _ _ _ _ _ _ _ _ _ _)
      | (with_reducible exact pack_Reader_Text.mono _ _ _ _ _)
      | (with_reducible exact LeO.refl _)
      | (with_reducible exact LeO.none _)
      | (with_reducible refine LeO.ite ?_ ?_)
      | (with_reducible refine LeO.bind ?_ (fun _ => ?_))
      | exact ih0 _ _ _ _ _ _ _ _ _ _ _ _ _ _ _ _
      | exact ih1 _ _ _ _ _ _ _ _ _ _ _ _ _ _ _ _ _
      | exact pack_Reader_Text.mono _ _ _ _ _
      | exact LeO.none _
      | refine LeO.ite ?_ ?_
      | refine LeO.bind ?_ (fun _ => ?_)
    · intro y0 y1 y2 y3 y4 y5 y6 y7 y8 y9 y10 y11 y12 y13 y14 y15 y16
      unfold letter_readAsk.l1
      repeat' first
      | (with_reducible exact ih0 _ _ _ _ _ _ _ _ _ _ _ _ _ _ _ _)
      | (with_reducible exact ih1 _ _ _ _ _ _ _ _ _ _ _ _ _ _ _ _ _)
      | (with_reducible exact pack_Reader_Text.mono _ _ _ _ _)
      | (with_reducible exact LeO.refl _)
      | (with_reducible exact LeO.none _)
      | (with_reducible refine LeO.ite ?_ ?_)
      | (with_reducible refine LeO.bind ?_ (fun _ => ?_))
      | exact ih0 _ _ _ _ _ _ _ _ _ _ _ _ _ _ _ _
      | exact ih1 _ _ _ _ _ _ _ _ _ _ _ _ _ _ _ _ _
      | exact pack_Reader_Text.mono _ _ _ _ _
      | exact LeO.none _
      | refine LeO.ite ?_ ?_
      | refine LeO.bind ?_ (fun _ => ?_)
theorem letter_readAsk.mono : ∀ a0 a1 k, LeO (letter_readAsk.f k a0 a1) (letter_readAsk.f (k + 1) a0 a1) := by
  intro a0 a1 k
  obtain ⟨ih0, ih1⟩ := letter_readAsk.mono_l k
  unfold letter_readAsk.f
  repeat' first
      | (with_reducible exact ih0 _ _ _ _ _ _ _ _ _ _ _ _ _ _ _ _)
      | (with_reducible exact ih1 _ _ _ _ _ _ _ _ _ _ _ _ _ _ _ _ _)
      | (with_reducible exact pack_Reader_Text.mono _ _ _ _ _)
      | (with_reducible exact LeO.refl _)
      | (with_reducible exact LeO.none _)
      | (with_reducible refine LeO.ite ?_ ?_)
      | (with_reducible refine LeO.bind ?_ (fun _ => ?_))
      | exact ih0 _ _ _ _ _ _ _ _ _ _ _ _ _ _ _ _
      | exact ih1 _ _ _ _ _ _ _ _ _ _ _ _ _ _ _ _ _
      | exact pack_Reader_Text.mono _ _ _ _ _
      | exact LeO.none _
      | refine LeO.ite ?_ ?_
      | refine LeO.bind ?_ (fun _ => ?_)
def letter_readAsk.T4 : Bool × List (List Nat × List Nat) := (true, [([], []), ([0], [0]), ([], []), ([2], [2]), ([], []), ([4, 3], [4]), ([], []), ([6, 5], [6]), ([3, 5, 7], [3, 5, 7]), ([8], [8]), ([1, 9, 7], [1, 9]), ([0, 1, 2, 3, 4, 5, 6, 7, 8, 9, 10], []), ([11, 10, 10, 0, 1, 2, 3, 4, 5, 6, 7, 8, 9, 10], [10, 11])])
def letter_readAsk.B4 : List Nat := [0, 1, 0, 4, 0, 28, 0, 124, 252, 508, 1023, 2047, 4095]
theorem letter_readAsk.tab4 : rtab .any (opsOf Try.f32 4) = letter_readAsk.T4 := by kernel_rfl
theorem letter_readAsk.bits4 : waitsOk letter_readAsk.T4.2 letter_readAsk.B4 = true := by kernel_rfl
def letter_readAsk.T8 : Bool × List (List Nat × List Nat) := (true, [([], []), ([0], [0]), ([], []), ([2], [2]), ([3], [3]), ([1, 4, 3], [1, 4]), ([0, 1, 2, 3, 4, 5], []), ([6, 5, 5, 0, 1, 2, 3, 4, 5], [5, 6])])
def letter_readAsk.B8 : List Nat := [0, 1, 0, 4, 12, 31, 63, 127]
theorem letter_readAsk.tab8 : rtab .any (opsOf Try.f32 8) = letter_readAsk.T8 := by kernel_rfl
theorem letter_readAsk.bits8 : waitsOk letter_readAsk.T8.2 letter_readAsk.B8 = true := by kernel_rfl
set_option maxHeartbeats 8000000 in
set_option maxRecDepth 100000 in
theorem letter_readAsk.calls (k : Nat) (g : Nat) (s0_0 : ByteArray) (s0_1 : Int) (r1 : Int) (r2 : Int) (r3 : Int) (r4 : Int) (r5 : Int) (r6 : Int) (r7 : Int) (r8 : ByteArray) (r9 : ByteArray) (r10 : Int) (r11 : Int) (r12 : List (S66)) (r13 : List (S24)) (r14 : ByteArray) (r15 : Int) (w0 w : World) (hI : IsS92 w0 w g s0_0 s0_1) (hB : Below w0.heap.size w0 w) (h : letter_readAsk.f k s0_0 s0_1 = some (r1, r2, r3, r4, r5, r6, r7, r8, r9, r10, r11, r12, r13, r14, r15)) :
    Calls Try.prog 32 #[.pointer (some ⟨g, 0, none⟩)] w fun e w' => ∃ v11_ v12_ : Value, e = .returned (.agg #[.int .i64 r1, .int .u32 r2, .int .u32 r3, .int .u64 r4, .int .u32 r5, .int .u64 r6, .int .u32 r7, .string r8, .string r9, .int .i64 r10, .int .u8 r11, v11_, v12_]) ∧ Kd.R k66 66 w' w.heap.size (fun _ => True) v11_ r12 ∧ Kd.R k24 24 w' w.heap.size (fun _ => True) v12_ r13 ∧ IsS92 w0 w' g r14 r15 ∧ Below w0.heap.size w0 w' ∧ KeepBut w w' g none := by
  have hu31 := Try.underlying31
  have hu66 := Try.underlying66
  have HI0 := Aside0.mk hI
  have HK := Aside0.mk (KeepBut.refl w g none)
  have HL := Aside0.mk hB.size
  clear hI
  have HW0 := Aside0.mk hB.size
  have HB := Aside0.mk hB
  clear hB
  have H : ((pack_Reader_Number.f s0_0 s0_1 9).bind fun bt109 => ((letter_txn.f bt109.2.1 bt109.2.2).bind fun bt112 => ((pack_Reader_Stamp.f bt112.2.2.1 bt112.2.2.2).bind fun bt116 => ((pack_Reader_Stamp.f bt116.2.2.1 bt116.2.2.2).bind fun bt120 => ((pack_Reader_Text.f k bt120.2.2.1 bt120.2.2.2 0 32).bind fun bt124 => ((pack_Reader_Text.f k bt124.2.1 bt124.2.2 0 32).bind fun bt127 => ((pack_Reader_Number.f bt127.2.1 bt127.2.2 32).bind fun bt130 => ((pack_Reader_Number.f bt130.2.1 bt130.2.2 255).bind fun bt133 => ((pack_Reader_Count.f bt133.2.1 bt133.2.2 16).bind fun bt137 => (letter_readAsk.l0 k bt137.1 0 bt137.2.1 bt137.2.2 (wrap64 (bt109.1)) bt112.1 bt112.2.1 bt116.1 bt116.2.1 bt120.1 bt120.2.1 bt124.1 bt127.1 (wrap64 (bt130.1)) ((bt133.1) % 256) ([] : List (S66)))))))))))) = some (r1, r2, r3, r4, r5, r6, r7, r8, r9, r10, r11, r12, r13, r14, r15) := h
  clear h
  replace H := Option.bind_eq_some_iff.mp H
  obtain ⟨⟨t109, t110, t111⟩, A20, H⟩ := H
  replace H : ((letter_txn.f t110 t111).bind fun bt112 => ((pack_Reader_Stamp.f bt112.2.2.1 bt112.2.2.2).bind fun bt116 => ((pack_Reader_Stamp.f bt116.2.2.1 bt116.2.2.2).bind fun bt120 => ((pack_Reader_Text.f k bt120.2.2.1 bt120.2.2.2 0 32).bind fun bt124 => ((pack_Reader_Text.f k bt124.2.1 bt124.2.2 0 32).bind fun bt127 => ((pack_Reader_Number.f bt127.2.1 bt127.2.2 32).bind fun bt130 => ((pack_Reader_Number.f bt130.2.1 bt130.2.2 255).bind fun bt133 => ((pack_Reader_Count.f bt133.2.1 bt133.2.2 16).bind fun bt137 => (letter_readAsk.l0 k bt137.1 0 bt137.2.1 bt137.2.2 (wrap64 (t109)) bt112.1 bt112.2.1 bt116.1 bt116.2.1 bt120.1 bt120.2.1 bt124.1 bt127.1 (wrap64 (bt130.1)) ((bt133.1) % 256) ([] : List (S66))))))))))) = some (r1, r2, r3, r4, r5, r6, r7, r8, r9, r10, r11, r12, r13, r14, r15) := H
  have A2 := Aside0.mk A20
  clear A20
  replace H := Option.bind_eq_some_iff.mp H
  obtain ⟨⟨t112, t113, t114, t115⟩, A30, H⟩ := H
  replace H : ((pack_Reader_Stamp.f t114 t115).bind fun bt116 => ((pack_Reader_Stamp.f bt116.2.2.1 bt116.2.2.2).bind fun bt120 => ((pack_Reader_Text.f k bt120.2.2.1 bt120.2.2.2 0 32).bind fun bt124 => ((pack_Reader_Text.f k bt124.2.1 bt124.2.2 0 32).bind fun bt127 => ((pack_Reader_Number.f bt127.2.1 bt127.2.2 32).bind fun bt130 => ((pack_Reader_Number.f bt130.2.1 bt130.2.2 255).bind fun bt133 => ((pack_Reader_Count.f bt133.2.1 bt133.2.2 16).bind fun bt137 => (letter_readAsk.l0 k bt137.1 0 bt137.2.1 bt137.2.2 (wrap64 (t109)) t112 t113 bt116.1 bt116.2.1 bt120.1 bt120.2.1 bt124.1 bt127.1 (wrap64 (bt130.1)) ((bt133.1) % 256) ([] : List (S66)))))))))) = some (r1, r2, r3, r4, r5, r6, r7, r8, r9, r10, r11, r12, r13, r14, r15) := H
  have A3 := Aside0.mk A30
  clear A30
  replace H := Option.bind_eq_some_iff.mp H
  obtain ⟨⟨t116, t117, t118, t119⟩, A40, H⟩ := H
  replace H : ((pack_Reader_Stamp.f t118 t119).bind fun bt120 => ((pack_Reader_Text.f k bt120.2.2.1 bt120.2.2.2 0 32).bind fun bt124 => ((pack_Reader_Text.f k bt124.2.1 bt124.2.2 0 32).bind fun bt127 => ((pack_Reader_Number.f bt127.2.1 bt127.2.2 32).bind fun bt130 => ((pack_Reader_Number.f bt130.2.1 bt130.2.2 255).bind fun bt133 => ((pack_Reader_Count.f bt133.2.1 bt133.2.2 16).bind fun bt137 => (letter_readAsk.l0 k bt137.1 0 bt137.2.1 bt137.2.2 (wrap64 (t109)) t112 t113 t116 t117 bt120.1 bt120.2.1 bt124.1 bt127.1 (wrap64 (bt130.1)) ((bt133.1) % 256) ([] : List (S66))))))))) = some (r1, r2, r3, r4, r5, r6, r7, r8, r9, r10, r11, r12, r13, r14, r15) := H
  have A4 := Aside0.mk A40
  clear A40
  replace H := Option.bind_eq_some_iff.mp H
  obtain ⟨⟨t120, t121, t122, t123⟩, A50, H⟩ := H
  replace H : ((pack_Reader_Text.f k t122 t123 0 32).bind fun bt124 => ((pack_Reader_Text.f k bt124.2.1 bt124.2.2 0 32).bind fun bt127 => ((pack_Reader_Number.f bt127.2.1 bt127.2.2 32).bind fun bt130 => ((pack_Reader_Number.f bt130.2.1 bt130.2.2 255).bind fun bt133 => ((pack_Reader_Count.f bt133.2.1 bt133.2.2 16).bind fun bt137 => (letter_readAsk.l0 k bt137.1 0 bt137.2.1 bt137.2.2 (wrap64 (t109)) t112 t113 t116 t117 t120 t121 bt124.1 bt127.1 (wrap64 (bt130.1)) ((bt133.1) % 256) ([] : List (S66)))))))) = some (r1, r2, r3, r4, r5, r6, r7, r8, r9, r10, r11, r12, r13, r14, r15) := H
  have A5 := Aside0.mk A50
  clear A50
  replace H := Option.bind_eq_some_iff.mp H
  obtain ⟨⟨t124, t125, t126⟩, A60, H⟩ := H
  replace H : ((pack_Reader_Text.f k t125 t126 0 32).bind fun bt127 => ((pack_Reader_Number.f bt127.2.1 bt127.2.2 32).bind fun bt130 => ((pack_Reader_Number.f bt130.2.1 bt130.2.2 255).bind fun bt133 => ((pack_Reader_Count.f bt133.2.1 bt133.2.2 16).bind fun bt137 => (letter_readAsk.l0 k bt137.1 0 bt137.2.1 bt137.2.2 (wrap64 (t109)) t112 t113 t116 t117 t120 t121 t124 bt127.1 (wrap64 (bt130.1)) ((bt133.1) % 256) ([] : List (S66))))))) = some (r1, r2, r3, r4, r5, r6, r7, r8, r9, r10, r11, r12, r13, r14, r15) := H
  have A6 := Aside0.mk A60
  clear A60
  replace H := Option.bind_eq_some_iff.mp H
  obtain ⟨⟨t127, t128, t129⟩, A70, H⟩ := H
  replace H : ((pack_Reader_Number.f t128 t129 32).bind fun bt130 => ((pack_Reader_Number.f bt130.2.1 bt130.2.2 255).bind fun bt133 => ((pack_Reader_Count.f bt133.2.1 bt133.2.2 16).bind fun bt137 => (letter_readAsk.l0 k bt137.1 0 bt137.2.1 bt137.2.2 (wrap64 (t109)) t112 t113 t116 t117 t120 t121 t124 t127 (wrap64 (bt130.1)) ((bt133.1) % 256) ([] : List (S66)))))) = some (r1, r2, r3, r4, r5, r6, r7, r8, r9, r10, r11, r12, r13, r14, r15) := H
  have A7 := Aside0.mk A70
  clear A70
  replace H := Option.bind_eq_some_iff.mp H
  obtain ⟨⟨t130, t131, t132⟩, A80, H⟩ := H
  replace H : ((pack_Reader_Number.f t131 t132 255).bind fun bt133 => ((pack_Reader_Count.f bt133.2.1 bt133.2.2 16).bind fun bt137 => (letter_readAsk.l0 k bt137.1 0 bt137.2.1 bt137.2.2 (wrap64 (t109)) t112 t113 t116 t117 t120 t121 t124 t127 (wrap64 (t130)) ((bt133.1) % 256) ([] : List (S66))))) = some (r1, r2, r3, r4, r5, r6, r7, r8, r9, r10, r11, r12, r13, r14, r15) := H
  have A8 := Aside0.mk A80
  clear A80
  replace H := Option.bind_eq_some_iff.mp H
  obtain ⟨⟨t133, t134, t135⟩, A90, H⟩ := H
  replace H : ((pack_Reader_Count.f t134 t135 16).bind fun bt137 => (letter_readAsk.l0 k bt137.1 0 bt137.2.1 bt137.2.2 (wrap64 (t109)) t112 t113 t116 t117 t120 t121 t124 t127 (wrap64 (t130)) ((t133) % 256) ([] : List (S66)))) = some (r1, r2, r3, r4, r5, r6, r7, r8, r9, r10, r11, r12, r13, r14, r15) := H
  have A9 := Aside0.mk A90
  clear A90
  replace H := Option.bind_eq_some_iff.mp H
  obtain ⟨⟨t137, t138, t139⟩, A100, H⟩ := H
  replace H : (letter_readAsk.l0 k t137 0 t138 t139 (wrap64 (t109)) t112 t113 t116 t117 t120 t121 t124 t127 (wrap64 (t130)) ((t133) % 256) ([] : List (S66))) = some (r1, r2, r3, r4, r5, r6, r7, r8, r9, r10, r11, r12, r13, r14, r15) := H
  have A10 := Aside0.mk A100
  clear A100
  have H' := Aside0.mk H
  clear H
  go_enter Try.func32, Try.ntmps32
  go_wp2_with (first | ((with_reducible refine gate_dst (N := 2) rfl ?_); refine box_event ?hg (N := 2) ?hd (cs := #[.int .i64 0, .int .u32 0, .int .u32 0, .int .u64 0, .int .u32 0, .int .u64 0, .int .u32 0, .string (⟨#[]⟩ : ByteArray), .string (⟨#[]⟩ : ByteArray), .int .i64 0, .int .u8 0, .slice none 0 0, .slice none 0 0]) (t := 31) ?hr ?_; (case hd => rfl); (case hg => rfl); (case hr => first | (go_simp; done) | (go_simp; rfl)); intro gb108 hg w11 hbox hb; have n0_ := Aside0.mk (IsS92.below (by repeat (first | (with_reducible first | exact HI0.out | apply IsS92.alloc | apply IsS92.drewN | apply IsS92.drew | apply IsS92.set_0 | apply IsS92.set_1) | exact HI0.out)) hb); have n1_ := Aside0.mk (KeepBut.trans (by repeat (first | (with_reducible first | exact HK.out | apply KeepBut.set_ | apply keep_drewN | apply keep_drew | apply keep_alloc) | exact HK.out)) (KeepBut.of_below hb g none) (.inl rfl)); have n2_ := Aside0.mk (below_step (by repeat (first | (with_reducible first | exact HB.out | apply below_alloc | apply pw_below_drewN | apply below_drew1 | refine below_set ?_ (IsS92.ge HI0.out)) | exact HB.out)) hb); have n3_ := Aside0.mk (hbox); have n4_ := Aside0.mk ((by rw [hg]; exact (keep_size (w := w) (g := g) (row := none) (by repeat (first | (with_reducible first | exact HK.out | apply KeepBut.set_ | apply keep_drewN | apply keep_drew | apply keep_alloc) | exact HK.out))) : w.heap.size ≤ gb108)); have n5_ := Aside0.mk ((Nat.le_trans HW0.out (by rw [hg]; exact (keep_size (w := w) (g := g) (row := none) (by repeat (first | (with_reducible first | exact HK.out | apply KeepBut.set_ | apply keep_drewN | apply keep_drew | apply keep_alloc) | exact HK.out))) : w.heap.size ≤ gb108) : w0.heap.size ≤ gb108)); have n6_ := Aside0.mk ((by rw [hg]; exact Nat.ne_of_lt (IsS92.lt (show IsS92 w0 _ g s0_0 s0_1 from by repeat (first | (with_reducible first | exact HI0.out | apply IsS92.alloc | apply IsS92.drewN | apply IsS92.drew | apply IsS92.set_0 | apply IsS92.set_1) | exact HI0.out))) : g ≠ gb108)); have n7_ := Aside0.mk ((by rw [hg]; exact Nat.ne_of_gt (IsS92.lt (show IsS92 w0 _ g s0_0 s0_1 from by repeat (first | (with_reducible first | exact HI0.out | apply IsS92.alloc | apply IsS92.drewN | apply IsS92.drew | apply IsS92.set_0 | apply IsS92.set_1) | exact HI0.out))) : gb108 ≠ g)); clear HI0; clear HK; clear HB; have HI0 := n0_; have HK := n1_; have HB := n2_; have BK108 := n3_; have GW108 := n4_; have GE108 := n5_; have NB0_108 := n6_; have NB108_0 := n7_; clear n0_ n1_ n2_ n3_ n4_ n5_ n6_ n7_; clear hb hbox hg) | ((with_reducible refine gate_callee (f := 29) rfl ?_); refine goesL_ (some 5) rfl rfl Try.func29 (by kernel_rfl) rfl #[.pointer (some ⟨g, 0, none⟩), .int .u64 9] rfl (by (try simp only [List.map_toArray, List.map_cons, List.map_nil]); first | done | rfl | (simp only [List.length_drop, List.length_take]; rfl)) ?_; (with_reducible refine (pack_Reader_Number.calls g s0_0 s0_1 9 t109 t110 t111 w0 _ ?side1 ?side2 A2.out).mono ?_); (case side1 => repeat (first | (with_reducible first | exact HI0.out | apply IsS92.alloc | apply IsS92.drewN | apply IsS92.drew | apply IsS92.set_0 | apply IsS92.set_1 | refine IsS92.far ?_ NB0_108.out _) | exact HI0.out)); (case side2 => repeat (first | (with_reducible first | exact HB.out | apply below_alloc | apply pw_below_drewN | apply below_drew1 | refine below_set ?_ (IsS92.ge HI0.out) | refine below_set ?_ GE108.out) | exact HB.out)); rintro e w12 ⟨rfl, hi, hb, hk⟩; refine ⟨_, rfl, ?_⟩; have n0_ := Aside0.mk (KeepBut.blk hk (g' := gb108) (o := .cells #[.int .i64 0, .int .u32 0, .int .u32 0, .int .u64 0, .int .u32 0, .int .u64 0, .int .u32 0, .string (⟨#[]⟩ : ByteArray), .string (⟨#[]⟩ : ByteArray), .int .i64 0, .int .u8 0, .slice none 0 0, .slice none 0 0] 31 (0, 0)) (by (with_reducible repeat (first | refine blk_drewN ?_ _ | refine blk_drew ?_ | refine blk_alloc ?_ _)); exact BK108.out) NB108_0.out (by simp)); have n1_ := Aside0.mk (KeepBut.trans (by repeat (first | (with_reducible first | exact HK.out | apply KeepBut.set_ | apply keep_drewN | apply keep_drew | apply keep_alloc | refine keep_far ?_ GW108.out _) | exact HK.out)) hk (.inl rfl)); have n2_ := Aside0.mk (hb); have n3_ := Aside0.mk (hi); clear BK108; clear HK; clear HB; clear HI0; have BK108 := n0_; have HK := n1_; have HB := n2_; have HI0 := n3_; clear n0_ n1_ n2_ n3_; (try clear hb); (try clear hb2); (try clear hk); (try clear hi)) | ((with_reducible refine gate_callee (f := 54) rfl ?_); refine goesL_ (some 8) rfl rfl Try.func54 (by kernel_rfl) rfl #[.pointer (some ⟨g, 0, none⟩)] rfl (by (try simp only [List.map_toArray, List.map_cons, List.map_nil]); first | done | rfl | (simp only [List.length_drop, List.length_take]; rfl)) ?_; (with_reducible refine (letter_txn.calls g t110 t111 t112 t113 t114 t115 w0 _ ?side1 ?side2 A3.out).mono ?_); (case side1 => repeat (first | (with_reducible first | exact HI0.out | apply IsS92.alloc | apply IsS92.drewN | apply IsS92.drew | apply IsS92.set_0 | apply IsS92.set_1 | refine IsS92.far ?_ NB0_108.out _) | exact HI0.out)); (case side2 => repeat (first | (with_reducible first | exact HB.out | apply below_alloc | apply pw_below_drewN | apply below_drew1 | refine below_set ?_ (IsS92.ge HI0.out) | refine below_set ?_ GE108.out) | exact HB.out)); rintro e w13 ⟨rfl, hi, hb, hk⟩; refine ⟨_, rfl, ?_⟩; have n0_ := Aside0.mk (KeepBut.blk hk (g' := gb108) (o := .cells #[.int .i64 0, .int .u32 0, .int .u32 0, .int .u64 0, .int .u32 0, .int .u64 0, .int .u32 0, .string (⟨#[]⟩ : ByteArray), .string (⟨#[]⟩ : ByteArray), .int .i64 0, .int .u8 0, .slice none 0 0, .slice none 0 0] 31 (0, 0)) (by (with_reducible repeat (first | refine blk_drewN ?_ _ | refine blk_drew ?_ | refine blk_alloc ?_ _)); exact BK108.out) NB108_0.out (by simp)); have n1_ := Aside0.mk (KeepBut.trans (by repeat (first | (with_reducible first | exact HK.out | apply KeepBut.set_ | apply keep_drewN | apply keep_drew | apply keep_alloc | refine keep_far ?_ GW108.out _) | exact HK.out)) hk (.inl rfl)); have n2_ := Aside0.mk (hb); have n3_ := Aside0.mk (hi); clear BK108; clear HK; clear HB; clear HI0; have BK108 := n0_; have HK := n1_; have HB := n2_; have HI0 := n3_; clear n0_ n1_ n2_ n3_; (try clear hb); (try clear hb2); (try clear hk); (try clear hi)) | ((with_reducible refine gate_callee (f := 55) rfl ?_); refine goesL_ (some 10) rfl rfl Try.func55 (by kernel_rfl) rfl #[.pointer (some ⟨g, 0, none⟩)] rfl (by (try simp only [List.map_toArray, List.map_cons, List.map_nil]); first | done | rfl | (simp only [List.length_drop, List.length_take]; rfl)) ?_; (with_reducible refine (pack_Reader_Stamp.calls g t114 t115 t116 t117 t118 t119 w0 _ ?side1 ?side2 A4.out).mono ?_); (case side1 => repeat (first | (with_reducible first | exact HI0.out | apply IsS92.alloc | apply IsS92.drewN | apply IsS92.drew | apply IsS92.set_0 | apply IsS92.set_1 | refine IsS92.far ?_ NB0_108.out _) | exact HI0.out)); (case side2 => repeat (first | (with_reducible first | exact HB.out | apply below_alloc | apply pw_below_drewN | apply below_drew1 | refine below_set ?_ (IsS92.ge HI0.out) | refine below_set ?_ GE108.out) | exact HB.out)); rintro e w14 ⟨rfl, hi, hb, hk⟩; refine ⟨_, rfl, ?_⟩; have n0_ := Aside0.mk (KeepBut.blk hk (g' := gb108) (o := .cells #[.int .i64 0, .int .u32 0, .int .u32 0, .int .u64 0, .int .u32 0, .int .u64 0, .int .u32 0, .string (⟨#[]⟩ : ByteArray), .string (⟨#[]⟩ : ByteArray), .int .i64 0, .int .u8 0, .slice none 0 0, .slice none 0 0] 31 (0, 0)) (by (with_reducible repeat (first | refine blk_drewN ?_ _ | refine blk_drew ?_ | refine blk_alloc ?_ _)); exact BK108.out) NB108_0.out (by simp)); have n1_ := Aside0.mk (KeepBut.trans (by repeat (first | (with_reducible first | exact HK.out | apply KeepBut.set_ | apply keep_drewN | apply keep_drew | apply keep_alloc | refine keep_far ?_ GW108.out _) | exact HK.out)) hk (.inl rfl)); have n2_ := Aside0.mk (hb); have n3_ := Aside0.mk (hi); clear BK108; clear HK; clear HB; clear HI0; have BK108 := n0_; have HK := n1_; have HB := n2_; have HI0 := n3_; clear n0_ n1_ n2_ n3_; (try clear hb); (try clear hb2); (try clear hk); (try clear hi)) | ((with_reducible refine gate_callee (f := 55) rfl ?_); refine goesL_ (some 12) rfl rfl Try.func55 (by kernel_rfl) rfl #[.pointer (some ⟨g, 0, none⟩)] rfl (by (try simp only [List.map_toArray, List.map_cons, List.map_nil]); first | done | rfl | (simp only [List.length_drop, List.length_take]; rfl)) ?_; (with_reducible refine (pack_Reader_Stamp.calls g t118 t119 t120 t121 t122 t123 w0 _ ?side1 ?side2 A5.out).mono ?_); (case side1 => repeat (first | (with_reducible first | exact HI0.out | apply IsS92.alloc | apply IsS92.drewN | apply IsS92.drew | apply IsS92.set_0 | apply IsS92.set_1 | refine IsS92.far ?_ NB0_108.out _) | exact HI0.out)); (case side2 => repeat (first | (with_reducible first | exact HB.out | apply below_alloc | apply pw_below_drewN | apply below_drew1 | refine below_set ?_ (IsS92.ge HI0.out) | refine below_set ?_ GE108.out) | exact HB.out)); rintro e w15 ⟨rfl, hi, hb, hk⟩; refine ⟨_, rfl, ?_⟩; have n0_ := Aside0.mk (KeepBut.blk hk (g' := gb108) (o := .cells #[.int .i64 0, .int .u32 0, .int .u32 0, .int .u64 0, .int .u32 0, .int .u64 0, .int .u32 0, .string (⟨#[]⟩ : ByteArray), .string (⟨#[]⟩ : ByteArray), .int .i64 0, .int .u8 0, .slice none 0 0, .slice none 0 0] 31 (0, 0)) (by (with_reducible repeat (first | refine blk_drewN ?_ _ | refine blk_drew ?_ | refine blk_alloc ?_ _)); exact BK108.out) NB108_0.out (by simp)); have n1_ := Aside0.mk (KeepBut.trans (by repeat (first | (with_reducible first | exact HK.out | apply KeepBut.set_ | apply keep_drewN | apply keep_drew | apply keep_alloc | refine keep_far ?_ GW108.out _) | exact HK.out)) hk (.inl rfl)); have n2_ := Aside0.mk (hb); have n3_ := Aside0.mk (hi); clear BK108; clear HK; clear HB; clear HI0; have BK108 := n0_; have HK := n1_; have HB := n2_; have HI0 := n3_; clear n0_ n1_ n2_ n3_; (try clear hb); (try clear hb2); (try clear hk); (try clear hi)) | ((with_reducible refine gate_callee (f := 52) rfl ?_); refine goesL_ (some 14) rfl rfl Try.func52 (by kernel_rfl) rfl #[.pointer (some ⟨g, 0, none⟩), .int .i64 0, .int .i64 32] rfl (by (try simp only [List.map_toArray, List.map_cons, List.map_nil]); first | done | rfl | (simp only [List.length_drop, List.length_take]; rfl)) ?_; (with_reducible refine (pack_Reader_Text.calls k g t122 t123 0 32 t124 t125 t126 w0 _ ?side1 ?side2 A6.out).mono ?_); (case side1 => repeat (first | (with_reducible first | exact HI0.out | apply IsS92.alloc | apply IsS92.drewN | apply IsS92.drew | apply IsS92.set_0 | apply IsS92.set_1 | refine IsS92.far ?_ NB0_108.out _) | exact HI0.out)); (case side2 => repeat (first | (with_reducible first | exact HB.out | apply below_alloc | apply pw_below_drewN | apply below_drew1 | refine below_set ?_ (IsS92.ge HI0.out) | refine below_set ?_ GE108.out) | exact HB.out)); rintro e w16 ⟨rfl, hi, hb, hk⟩; refine ⟨_, rfl, ?_⟩; have n0_ := Aside0.mk (KeepBut.blk hk (g' := gb108) (o := .cells #[.int .i64 0, .int .u32 0, .int .u32 0, .int .u64 0, .int .u32 0, .int .u64 0, .int .u32 0, .string (⟨#[]⟩ : ByteArray), .string (⟨#[]⟩ : ByteArray), .int .i64 0, .int .u8 0, .slice none 0 0, .slice none 0 0] 31 (0, 0)) (by (with_reducible repeat (first | refine blk_drewN ?_ _ | refine blk_drew ?_ | refine blk_alloc ?_ _)); exact BK108.out) NB108_0.out (by simp)); have n1_ := Aside0.mk (KeepBut.trans (by repeat (first | (with_reducible first | exact HK.out | apply KeepBut.set_ | apply keep_drewN | apply keep_drew | apply keep_alloc | refine keep_far ?_ GW108.out _) | exact HK.out)) hk (.inl rfl)); have n2_ := Aside0.mk (hb); have n3_ := Aside0.mk (hi); clear BK108; clear HK; clear HB; clear HI0; have BK108 := n0_; have HK := n1_; have HB := n2_; have HI0 := n3_; clear n0_ n1_ n2_ n3_; (try clear hb); (try clear hb2); (try clear hk); (try clear hi)) | ((with_reducible refine gate_callee (f := 52) rfl ?_); refine goesL_ (some 16) rfl rfl Try.func52 (by kernel_rfl) rfl #[.pointer (some ⟨g, 0, none⟩), .int .i64 0, .int .i64 32] rfl (by (try simp only [List.map_toArray, List.map_cons, List.map_nil]); first | done | rfl | (simp only [List.length_drop, List.length_take]; rfl)) ?_; (with_reducible refine (pack_Reader_Text.calls k g t125 t126 0 32 t127 t128 t129 w0 _ ?side1 ?side2 A7.out).mono ?_); (case side1 => repeat (first | (with_reducible first | exact HI0.out | apply IsS92.alloc | apply IsS92.drewN | apply IsS92.drew | apply IsS92.set_0 | apply IsS92.set_1 | refine IsS92.far ?_ NB0_108.out _) | exact HI0.out)); (case side2 => repeat (first | (with_reducible first | exact HB.out | apply below_alloc | apply pw_below_drewN | apply below_drew1 | refine below_set ?_ (IsS92.ge HI0.out) | refine below_set ?_ GE108.out) | exact HB.out)); rintro e w17 ⟨rfl, hi, hb, hk⟩; refine ⟨_, rfl, ?_⟩; have n0_ := Aside0.mk (KeepBut.blk hk (g' := gb108) (o := .cells #[.int .i64 0, .int .u32 0, .int .u32 0, .int .u64 0, .int .u32 0, .int .u64 0, .int .u32 0, .string (⟨#[]⟩ : ByteArray), .string (⟨#[]⟩ : ByteArray), .int .i64 0, .int .u8 0, .slice none 0 0, .slice none 0 0] 31 (0, 0)) (by (with_reducible repeat (first | refine blk_drewN ?_ _ | refine blk_drew ?_ | refine blk_alloc ?_ _)); exact BK108.out) NB108_0.out (by simp)); have n1_ := Aside0.mk (KeepBut.trans (by repeat (first | (with_reducible first | exact HK.out | apply KeepBut.set_ | apply keep_drewN | apply keep_drew | apply keep_alloc | refine keep_far ?_ GW108.out _) | exact HK.out)) hk (.inl rfl)); have n2_ := Aside0.mk (hb); have n3_ := Aside0.mk (hi); clear BK108; clear HK; clear HB; clear HI0; have BK108 := n0_; have HK := n1_; have HB := n2_; have HI0 := n3_; clear n0_ n1_ n2_ n3_; (try clear hb); (try clear hb2); (try clear hk); (try clear hi)) | ((with_reducible refine gate_callee (f := 29) rfl ?_); refine goesL_ (some 18) rfl rfl Try.func29 (by kernel_rfl) rfl #[.pointer (some ⟨g, 0, none⟩), .int .u64 32] rfl (by (try simp only [List.map_toArray, List.map_cons, List.map_nil]); first | done | rfl | (simp only [List.length_drop, List.length_take]; rfl)) ?_; (with_reducible refine (pack_Reader_Number.calls g t128 t129 32 t130 t131 t132 w0 _ ?side1 ?side2 A8.out).mono ?_); (case side1 => repeat (first | (with_reducible first | exact HI0.out | apply IsS92.alloc | apply IsS92.drewN | apply IsS92.drew | apply IsS92.set_0 | apply IsS92.set_1 | refine IsS92.far ?_ NB0_108.out _) | exact HI0.out)); (case side2 => repeat (first | (with_reducible first | exact HB.out | apply below_alloc | apply pw_below_drewN | apply below_drew1 | refine below_set ?_ (IsS92.ge HI0.out) | refine below_set ?_ GE108.out) | exact HB.out)); rintro e w18 ⟨rfl, hi, hb, hk⟩; refine ⟨_, rfl, ?_⟩; have n0_ := Aside0.mk (KeepBut.blk hk (g' := gb108) (o := .cells #[.int .i64 0, .int .u32 0, .int .u32 0, .int .u64 0, .int .u32 0, .int .u64 0, .int .u32 0, .string (⟨#[]⟩ : ByteArray), .string (⟨#[]⟩ : ByteArray), .int .i64 0, .int .u8 0, .slice none 0 0, .slice none 0 0] 31 (0, 0)) (by (with_reducible repeat (first | refine blk_drewN ?_ _ | refine blk_drew ?_ | refine blk_alloc ?_ _)); exact BK108.out) NB108_0.out (by simp)); have n1_ := Aside0.mk (KeepBut.trans (by repeat (first | (with_reducible first | exact HK.out | apply KeepBut.set_ | apply keep_drewN | apply keep_drew | apply keep_alloc | refine keep_far ?_ GW108.out _) | exact HK.out)) hk (.inl rfl)); have n2_ := Aside0.mk (hb); have n3_ := Aside0.mk (hi); clear BK108; clear HK; clear HB; clear HI0; have BK108 := n0_; have HK := n1_; have HB := n2_; have HI0 := n3_; clear n0_ n1_ n2_ n3_; (try clear hb); (try clear hb2); (try clear hk); (try clear hi)) | ((with_reducible refine gate_callee (f := 29) rfl ?_); refine goesL_ (some 21) rfl rfl Try.func29 (by kernel_rfl) rfl #[.pointer (some ⟨g, 0, none⟩), .int .u64 255] rfl (by (try simp only [List.map_toArray, List.map_cons, List.map_nil]); first | done | rfl | (simp only [List.length_drop, List.length_take]; rfl)) ?_; (with_reducible refine (pack_Reader_Number.calls g t131 t132 255 t133 t134 t135 w0 _ ?side1 ?side2 A9.out).mono ?_); (case side1 => repeat (first | (with_reducible first | exact HI0.out | apply IsS92.alloc | apply IsS92.drewN | apply IsS92.drew | apply IsS92.set_0 | apply IsS92.set_1 | refine IsS92.far ?_ NB0_108.out _) | exact HI0.out)); (case side2 => repeat (first | (with_reducible first | exact HB.out | apply below_alloc | apply pw_below_drewN | apply below_drew1 | refine below_set ?_ (IsS92.ge HI0.out) | refine below_set ?_ GE108.out) | exact HB.out)); rintro e w19 ⟨rfl, hi, hb, hk⟩; refine ⟨_, rfl, ?_⟩; have n0_ := Aside0.mk (KeepBut.blk hk (g' := gb108) (o := .cells #[.int .i64 0, .int .u32 0, .int .u32 0, .int .u64 0, .int .u32 0, .int .u64 0, .int .u32 0, .string (⟨#[]⟩ : ByteArray), .string (⟨#[]⟩ : ByteArray), .int .i64 0, .int .u8 0, .slice none 0 0, .slice none 0 0] 31 (0, 0)) (by (with_reducible repeat (first | refine blk_drewN ?_ _ | refine blk_drew ?_ | refine blk_alloc ?_ _)); exact BK108.out) NB108_0.out (by simp)); have n1_ := Aside0.mk (KeepBut.trans (by repeat (first | (with_reducible first | exact HK.out | apply KeepBut.set_ | apply keep_drewN | apply keep_drew | apply keep_alloc | refine keep_far ?_ GW108.out _) | exact HK.out)) hk (.inl rfl)); have n2_ := Aside0.mk (hb); have n3_ := Aside0.mk (hi); clear BK108; clear HK; clear HB; clear HI0; have BK108 := n0_; have HK := n1_; have HB := n2_; have HI0 := n3_; clear n0_ n1_ n2_ n3_; (try clear hb); (try clear hb2); (try clear hk); (try clear hi)) | ((with_reducible refine gate_dst (N := 3) rfl ?_); refine box_event ?hg (N := 3) ?hd (cs := #[.int .i64 0, .int .u32 0, .int .u32 0, .int .u64 0, .int .u32 0, .int .u64 0, .int .u32 0, .string (⟨#[]⟩ : ByteArray), .string (⟨#[]⟩ : ByteArray), .int .i64 0, .int .u8 0, .slice none 0 0, .slice none 0 0]) (t := 31) ?hr ?_; (case hd => rfl); (case hg => rfl); (case hr => first | (go_simp; done) | (go_simp; rfl)); intro gb136 hg w20 hbox hb; have n0_ := Aside0.mk (IsS92.below (by repeat (first | (with_reducible first | exact HI0.out | apply IsS92.alloc | apply IsS92.drewN | apply IsS92.drew | apply IsS92.set_0 | apply IsS92.set_1 | refine IsS92.far ?_ NB0_108.out _) | exact HI0.out)) hb); have n1_ := Aside0.mk (blk_below (g := gb108) (o := .cells #[.int .i64 0, .int .u32 0, .int .u32 0, .int .u64 0, .int .u32 0, .int .u64 0, .int .u32 0, .string (⟨#[]⟩ : ByteArray), .string (⟨#[]⟩ : ByteArray), .int .i64 0, .int .u8 0, .slice none 0 0, .slice none 0 0] 31 (0, 0)) (by (with_reducible repeat (first | refine blk_drewN ?_ _ | refine blk_drew ?_ | refine blk_alloc ?_ _)); exact BK108.out) hb); have n2_ := Aside0.mk (KeepBut.trans (by repeat (first | (with_reducible first | exact HK.out | apply KeepBut.set_ | apply keep_drewN | apply keep_drew | apply keep_alloc | refine keep_far ?_ GW108.out _) | exact HK.out)) (KeepBut.of_below hb g none) (.inl rfl)); have n3_ := Aside0.mk (below_step (by repeat (first | (with_reducible first | exact HB.out | apply below_alloc | apply pw_below_drewN | apply below_drew1 | refine below_set ?_ (IsS92.ge HI0.out) | refine below_set ?_ GE108.out) | exact HB.out)) hb); have n4_ := Aside0.mk (hbox); have n5_ := Aside0.mk ((by rw [hg]; exact (keep_size (w := w) (g := g) (row := none) (by repeat (first | (with_reducible first | exact HK.out | apply KeepBut.set_ | apply keep_drewN | apply keep_drew | apply keep_alloc | refine keep_far ?_ GW108.out _) | exact HK.out))) : w.heap.size ≤ gb136)); have n6_ := Aside0.mk ((Nat.le_trans HW0.out (by rw [hg]; exact (keep_size (w := w) (g := g) (row := none) (by repeat (first | (with_reducible first | exact HK.out | apply KeepBut.set_ | apply keep_drewN | apply keep_drew | apply keep_alloc | refine keep_far ?_ GW108.out _) | exact HK.out))) : w.heap.size ≤ gb136) : w0.heap.size ≤ gb136)); have n7_ := Aside0.mk ((by rw [hg]; exact Nat.ne_of_lt (blk_lt (g := gb108) (o := .cells #[.int .i64 0, .int .u32 0, .int .u32 0, .int .u64 0, .int .u32 0, .int .u64 0, .int .u32 0, .string (⟨#[]⟩ : ByteArray), .string (⟨#[]⟩ : ByteArray), .int .i64 0, .int .u8 0, .slice none 0 0, .slice none 0 0] 31 (0, 0)) (by (with_reducible repeat (first | refine blk_drewN ?_ _ | refine blk_drew ?_ | refine blk_alloc ?_ _)); exact BK108.out)) : gb108 ≠ gb136)); have n8_ := Aside0.mk ((by rw [hg]; exact Nat.ne_of_gt (blk_lt (g := gb108) (o := .cells #[.int .i64 0, .int .u32 0, .int .u32 0, .int .u64 0, .int .u32 0, .int .u64 0, .int .u32 0, .string (⟨#[]⟩ : ByteArray), .string (⟨#[]⟩ : ByteArray), .int .i64 0, .int .u8 0, .slice none 0 0, .slice none 0 0] 31 (0, 0)) (by (with_reducible repeat (first | refine blk_drewN ?_ _ | refine blk_drew ?_ | refine blk_alloc ?_ _)); exact BK108.out)) : gb136 ≠ gb108)); have n9_ := Aside0.mk ((by rw [hg]; exact Nat.ne_of_lt (IsS92.lt (show IsS92 w0 _ g t134 t135 from by repeat (first | (with_reducible first | exact HI0.out | apply IsS92.alloc | apply IsS92.drewN | apply IsS92.drew | apply IsS92.set_0 | apply IsS92.set_1 | refine IsS92.far ?_ NB0_108.out _) | exact HI0.out))) : g ≠ gb136)); have n10_ := Aside0.mk ((by rw [hg]; exact Nat.ne_of_gt (IsS92.lt (show IsS92 w0 _ g t134 t135 from by repeat (first | (with_reducible first | exact HI0.out | apply IsS92.alloc | apply IsS92.drewN | apply IsS92.drew | apply IsS92.set_0 | apply IsS92.set_1 | refine IsS92.far ?_ NB0_108.out _) | exact HI0.out))) : gb136 ≠ g)); clear HI0; clear BK108; clear HK; clear HB; have HI0 := n0_; have BK108 := n1_; have HK := n2_; have HB := n3_; have BK136 := n4_; have GW136 := n5_; have GE136 := n6_; have NB108_136 := n7_; have NB136_108 := n8_; have NB0_136 := n9_; have NB136_0 := n10_; clear n0_ n1_ n2_ n3_ n4_ n5_ n6_ n7_ n8_ n9_ n10_; clear hb hbox hg; have hnb21 := NB136_108.out; have hnc21 := NB108_136.out; have hnb22 := NB136_0.out; have hnc22 := NB0_136.out; have hcz23_0 : w20.cell? ⟨gb136, 0, none⟩ = some (.int .i64 0) := (blk_cell BK136.out 0).trans rfl; have hcz23_1 : w20.cell? ⟨gb136, 1, none⟩ = some (.int .u32 0) := (blk_cell BK136.out 1).trans rfl; have hcz23_2 : w20.cell? ⟨gb136, 2, none⟩ = some (.int .u32 0) := (blk_cell BK136.out 2).trans rfl; have hcz23_3 : w20.cell? ⟨gb136, 3, none⟩ = some (.int .u64 0) := (blk_cell BK136.out 3).trans rfl; have hcz23_4 : w20.cell? ⟨gb136, 4, none⟩ = some (.int .u32 0) := (blk_cell BK136.out 4).trans rfl; have hcz23_5 : w20.cell? ⟨gb136, 5, none⟩ = some (.int .u64 0) := (blk_cell BK136.out 5).trans rfl; have hcz23_6 : w20.cell? ⟨gb136, 6, none⟩ = some (.int .u32 0) := (blk_cell BK136.out 6).trans rfl; have hcz23_7 : w20.cell? ⟨gb136, 7, none⟩ = some (.string (⟨#[]⟩ : ByteArray)) := (blk_cell BK136.out 7).trans rfl; have hcz23_8 : w20.cell? ⟨gb136, 8, none⟩ = some (.string (⟨#[]⟩ : ByteArray)) := (blk_cell BK136.out 8).trans rfl; have hcz23_9 : w20.cell? ⟨gb136, 9, none⟩ = some (.int .i64 0) := (blk_cell BK136.out 9).trans rfl; have hcz23_10 : w20.cell? ⟨gb136, 10, none⟩ = some (.int .u8 0) := (blk_cell BK136.out 10).trans rfl; have hcz23_11 : w20.cell? ⟨gb136, 11, none⟩ = some (.slice none 0 0) := (blk_cell BK136.out 11).trans rfl; have hcz23_12 : w20.cell? ⟨gb136, 12, none⟩ = some (.slice none 0 0) := (blk_cell BK136.out 12).trans rfl; have hfz23_0 := blk_frozen BK136.out 0; have hfz23_1 := blk_frozen BK136.out 1; have hfz23_2 := blk_frozen BK136.out 2; have hfz23_3 := blk_frozen BK136.out 3; have hfz23_4 := blk_frozen BK136.out 4; have hfz23_5 := blk_frozen BK136.out 5; have hfz23_6 := blk_frozen BK136.out 6; have hfz23_7 := blk_frozen BK136.out 7; have hfz23_8 := blk_frozen BK136.out 8; have hfz23_9 := blk_frozen BK136.out 9; have hfz23_10 := blk_frozen BK136.out 10; have hfz23_11 := blk_frozen BK136.out 11; have hfz23_12 := blk_frozen BK136.out 12) | ((with_reducible refine gate_callee (f := 53) rfl ?_); refine goesL_ (some 25) rfl rfl Try.func53 (by kernel_rfl) rfl #[.pointer (some ⟨g, 0, none⟩), .int .i64 16] rfl (by (try simp only [List.map_toArray, List.map_cons, List.map_nil]); first | done | rfl | (simp only [List.length_drop, List.length_take]; rfl)) ?_; (with_reducible refine (pack_Reader_Count.calls g t134 t135 16 t137 t138 t139 w0 _ ?side1 ?side2 A10.out).mono ?_); (case side1 => repeat (first | (with_reducible first | exact HI0.out | apply IsS92.alloc | apply IsS92.drewN | apply IsS92.drew | apply IsS92.set_0 | apply IsS92.set_1 | refine IsS92.far ?_ NB0_108.out _ | refine IsS92.far ?_ NB0_136.out _) | exact HI0.out)); (case side2 => repeat (first | (with_reducible first | exact HB.out | apply below_alloc | apply pw_below_drewN | apply below_drew1 | refine below_set ?_ (IsS92.ge HI0.out) | refine below_set ?_ GE108.out | refine below_set ?_ GE136.out) | exact HB.out)); rintro e w24 ⟨rfl, hi, hb, hk⟩; refine ⟨_, rfl, ?_⟩; have n0_ := Aside0.mk (KeepBut.blk hk (g' := gb108) (o := .cells #[.int .i64 0, .int .u32 0, .int .u32 0, .int .u64 0, .int .u32 0, .int .u64 0, .int .u32 0, .string (⟨#[]⟩ : ByteArray), .string (⟨#[]⟩ : ByteArray), .int .i64 0, .int .u8 0, .slice none 0 0, .slice none 0 0] 31 (0, 0)) (by (with_reducible repeat (first | refine blk_drewN ?_ _ | refine blk_drew ?_ | refine blk_alloc ?_ _)); refine blk_far ?_ NB108_136.out _; (with_reducible repeat (first | refine blk_drewN ?_ _ | refine blk_drew ?_ | refine blk_alloc ?_ _)); refine blk_far ?_ NB108_136.out _; (with_reducible repeat (first | refine blk_drewN ?_ _ | refine blk_drew ?_ | refine blk_alloc ?_ _)); refine blk_far ?_ NB108_136.out _; (with_reducible repeat (first | refine blk_drewN ?_ _ | refine blk_drew ?_ | refine blk_alloc ?_ _)); refine blk_far ?_ NB108_136.out _; (with_reducible repeat (first | refine blk_drewN ?_ _ | refine blk_drew ?_ | refine blk_alloc ?_ _)); refine blk_far ?_ NB108_136.out _; (with_reducible repeat (first | refine blk_drewN ?_ _ | refine blk_drew ?_ | refine blk_alloc ?_ _)); refine blk_far ?_ NB108_136.out _; (with_reducible repeat (first | refine blk_drewN ?_ _ | refine blk_drew ?_ | refine blk_alloc ?_ _)); refine blk_far ?_ NB108_136.out _; (with_reducible repeat (first | refine blk_drewN ?_ _ | refine blk_drew ?_ | refine blk_alloc ?_ _)); refine blk_far ?_ NB108_136.out _; (with_reducible repeat (first | refine blk_drewN ?_ _ | refine blk_drew ?_ | refine blk_alloc ?_ _)); refine blk_far ?_ NB108_136.out _; (with_reducible repeat (first | refine blk_drewN ?_ _ | refine blk_drew ?_ | refine blk_alloc ?_ _)); refine blk_far ?_ NB108_136.out _; (with_reducible repeat (first | refine blk_drewN ?_ _ | refine blk_drew ?_ | refine blk_alloc ?_ _)); refine blk_far ?_ NB108_136.out _; (with_reducible repeat (first | refine blk_drewN ?_ _ | refine blk_drew ?_ | refine blk_alloc ?_ _)); refine blk_far ?_ NB108_136.out _; (with_reducible repeat (first | refine blk_drewN ?_ _ | refine blk_drew ?_ | refine blk_alloc ?_ _)); refine blk_far ?_ NB108_136.out _; (with_reducible repeat (first | refine blk_drewN ?_ _ | refine blk_drew ?_ | refine blk_alloc ?_ _)); exact BK108.out) NB108_0.out (by simp)); have n1_ := Aside0.mk (KeepBut.blk hk (g' := gb136) (o := .cells #[.int .i64 (wrap64 (t109)), .int .u32 t112, .int .u32 t113, .int .u64 t116, .int .u32 t117, .int .u64 t120, .int .u32 t121, .string t124, .string t127, .int .i64 (wrap64 (t130)), .int .u8 ((t133) % 256), .slice none 0 0, .slice none 0 0] 31 (0, 0)) (by (with_reducible repeat (first | refine blk_drewN ?_ _ | refine blk_drew ?_ | refine blk_alloc ?_ _)); refine blk_put (cs := #[.int .i64 (wrap64 (t109)), .int .u32 t112, .int .u32 t113, .int .u64 t116, .int .u32 t117, .int .u64 t120, .int .u32 t121, .string t124, .string t127, .int .i64 (wrap64 (t130)), .int .u8 ((t133) % 256), .slice none 0 0, .slice none 0 0]) ?_ 12 _ rfl; (with_reducible repeat (first | refine blk_drewN ?_ _ | refine blk_drew ?_ | refine blk_alloc ?_ _)); refine blk_put (cs := #[.int .i64 (wrap64 (t109)), .int .u32 t112, .int .u32 t113, .int .u64 t116, .int .u32 t117, .int .u64 t120, .int .u32 t121, .string t124, .string t127, .int .i64 (wrap64 (t130)), .int .u8 ((t133) % 256), .slice none 0 0, .slice none 0 0]) ?_ 11 _ rfl; (with_reducible repeat (first | refine blk_drewN ?_ _ | refine blk_drew ?_ | refine blk_alloc ?_ _)); refine blk_put (cs := #[.int .i64 (wrap64 (t109)), .int .u32 t112, .int .u32 t113, .int .u64 t116, .int .u32 t117, .int .u64 t120, .int .u32 t121, .string t124, .string t127, .int .i64 (wrap64 (t130)), .int .u8 0, .slice none 0 0, .slice none 0 0]) ?_ 10 _ rfl; (with_reducible repeat (first | refine blk_drewN ?_ _ | refine blk_drew ?_ | refine blk_alloc ?_ _)); refine blk_put (cs := #[.int .i64 (wrap64 (t109)), .int .u32 t112, .int .u32 t113, .int .u64 t116, .int .u32 t117, .int .u64 t120, .int .u32 t121, .string t124, .string t127, .int .i64 0, .int .u8 0, .slice none 0 0, .slice none 0 0]) ?_ 9 _ rfl; (with_reducible repeat (first | refine blk_drewN ?_ _ | refine blk_drew ?_ | refine blk_alloc ?_ _)); refine blk_put (cs := #[.int .i64 (wrap64 (t109)), .int .u32 t112, .int .u32 t113, .int .u64 t116, .int .u32 t117, .int .u64 t120, .int .u32 t121, .string t124, .string (⟨#[]⟩ : ByteArray), .int .i64 0, .int .u8 0, .slice none 0 0, .slice none 0 0]) ?_ 8 _ rfl; (with_reducible repeat (first | refine blk_drewN ?_ _ | refine blk_drew ?_ | refine blk_alloc ?_ _)); refine blk_put (cs := #[.int .i64 (wrap64 (t109)), .int .u32 t112, .int .u32 t113, .int .u64 t116, .int .u32 t117, .int .u64 t120, .int .u32 t121, .string (⟨#[]⟩ : ByteArray), .string (⟨#[]⟩ : ByteArray), .int .i64 0, .int .u8 0, .slice none 0 0, .slice none 0 0]) ?_ 7 _ rfl; (with_reducible repeat (first | refine blk_drewN ?_ _ | refine blk_drew ?_ | refine blk_alloc ?_ _)); refine blk_put (cs := #[.int .i64 (wrap64 (t109)), .int .u32 t112, .int .u32 t113, .int .u64 t116, .int .u32 t117, .int .u64 t120, .int .u32 0, .string (⟨#[]⟩ : ByteArray), .string (⟨#[]⟩ : ByteArray), .int .i64 0, .int .u8 0, .slice none 0 0, .slice none 0 0]) ?_ 6 _ rfl; (with_reducible repeat (first | refine blk_drewN ?_ _ | refine blk_drew ?_ | refine blk_alloc ?_ _)); refine blk_put (cs := #[.int .i64 (wrap64 (t109)), .int .u32 t112, .int .u32 t113, .int .u64 t116, .int .u32 t117, .int .u64 0, .int .u32 0, .string (⟨#[]⟩ : ByteArray), .string (⟨#[]⟩ : ByteArray), .int .i64 0, .int .u8 0, .slice none 0 0, .slice none 0 0]) ?_ 5 _ rfl; (with_reducible repeat (first | refine blk_drewN ?_ _ | refine blk_drew ?_ | refine blk_alloc ?_ _)); refine blk_put (cs := #[.int .i64 (wrap64 (t109)), .int .u32 t112, .int .u32 t113, .int .u64 t116, .int .u32 0, .int .u64 0, .int .u32 0, .string (⟨#[]⟩ : ByteArray), .string (⟨#[]⟩ : ByteArray), .int .i64 0, .int .u8 0, .slice none 0 0, .slice none 0 0]) ?_ 4 _ rfl; (with_reducible repeat (first | refine blk_drewN ?_ _ | refine blk_drew ?_ | refine blk_alloc ?_ _)); refine blk_put (cs := #[.int .i64 (wrap64 (t109)), .int .u32 t112, .int .u32 t113, .int .u64 0, .int .u32 0, .int .u64 0, .int .u32 0, .string (⟨#[]⟩ : ByteArray), .string (⟨#[]⟩ : ByteArray), .int .i64 0, .int .u8 0, .slice none 0 0, .slice none 0 0]) ?_ 3 _ rfl; (with_reducible repeat (first | refine blk_drewN ?_ _ | refine blk_drew ?_ | refine blk_alloc ?_ _)); refine blk_put (cs := #[.int .i64 (wrap64 (t109)), .int .u32 t112, .int .u32 0, .int .u64 0, .int .u32 0, .int .u64 0, .int .u32 0, .string (⟨#[]⟩ : ByteArray), .string (⟨#[]⟩ : ByteArray), .int .i64 0, .int .u8 0, .slice none 0 0, .slice none 0 0]) ?_ 2 _ rfl; (with_reducible repeat (first | refine blk_drewN ?_ _ | refine blk_drew ?_ | refine blk_alloc ?_ _)); refine blk_put (cs := #[.int .i64 (wrap64 (t109)), .int .u32 0, .int .u32 0, .int .u64 0, .int .u32 0, .int .u64 0, .int .u32 0, .string (⟨#[]⟩ : ByteArray), .string (⟨#[]⟩ : ByteArray), .int .i64 0, .int .u8 0, .slice none 0 0, .slice none 0 0]) ?_ 1 _ rfl; (with_reducible repeat (first | refine blk_drewN ?_ _ | refine blk_drew ?_ | refine blk_alloc ?_ _)); refine blk_put (cs := #[.int .i64 0, .int .u32 0, .int .u32 0, .int .u64 0, .int .u32 0, .int .u64 0, .int .u32 0, .string (⟨#[]⟩ : ByteArray), .string (⟨#[]⟩ : ByteArray), .int .i64 0, .int .u8 0, .slice none 0 0, .slice none 0 0]) ?_ 0 _ rfl; (with_reducible repeat (first | refine blk_drewN ?_ _ | refine blk_drew ?_ | refine blk_alloc ?_ _)); exact BK136.out) NB136_0.out (by simp)); have n2_ := Aside0.mk (KeepBut.trans (by repeat (first | (with_reducible first | exact HK.out | apply KeepBut.set_ | apply keep_drewN | apply keep_drew | apply keep_alloc | refine keep_far ?_ GW108.out _ | refine keep_far ?_ GW136.out _) | exact HK.out)) hk (.inl rfl)); have n3_ := Aside0.mk (hb); have n4_ := Aside0.mk (hi); clear BK108; clear BK136; clear HK; clear HB; clear HI0; have BK108 := n0_; have BK136 := n1_; have HK := n2_; have HB := n3_; have HI0 := n4_; clear n0_ n1_ n2_ n3_ n4_; (try clear hb); (try clear hb2); (try clear hk); (try clear hi)))
  go_loopg [26] k (fun kq v26 w' => ∃ (x26_1 : Int) (x1000_1 : ByteArray) (x1001_1 : Int) (x137011_1 : List (S66)) (u137011 : Value), v26 = .int .i64 x26_1 ∧ Aside0 (letter_readAsk.l0 kq t137 x26_1 x1000_1 x1001_1 (wrap64 (t109)) t112 t113 t116 t117 t120 t121 t124 t127 (wrap64 (t130)) ((t133) % 256) x137011_1 = some (r1, r2, r3, r4, r5, r6, r7, r8, r9, r10, r11, r12, r13, r14, r15)) ∧ Aside0 (kq ≤ k) ∧ Aside0 (Kd.R k66 66 w' w.heap.size (fun _ => True) u137011 x137011_1) ∧ Aside0 (w'.heap[gb108]? = some (.cells #[.int .i64 0, .int .u32 0, .int .u32 0, .int .u64 0, .int .u32 0, .int .u64 0, .int .u32 0, .string (⟨#[]⟩ : ByteArray), .string (⟨#[]⟩ : ByteArray), .int .i64 0, .int .u8 0, (.slice none 0 0), (.slice none 0 0)] 31 (0, 0))) ∧ Aside0 (w'.heap[gb136]? = some (.cells #[.int .i64 (wrap64 (t109)), .int .u32 t112, .int .u32 t113, .int .u64 t116, .int .u32 t117, .int .u64 t120, .int .u32 t121, .string t124, .string t127, .int .i64 (wrap64 (t130)), .int .u8 ((t133) % 256), u137011, (.slice none 0 0)] 31 (0, 0))) ∧ Aside0 (IsS92 w0 w' g x1000_1 x1001_1) ∧ Aside0 (KeepBut w w' g none) ∧ Aside0 (Below w0.heap.size w0 w'))
  case atStart => exact ⟨(0), (t138), (t139), (([] : List (S66))), (.slice none 0 0), (by first | rfl | (simp; done) | (simp [*]; done)), H', ⟨Nat.le_refl _⟩, ⟨by first | exact Kd.R_nil _ _ _ _ _ | exact Kd.N_nil _ _ _ _ _ | exact Kd.V_nil _ _ _ _ _ | exact Kd.Q_nil _ _ _ _ _ | exact Kd.S_nil _ _ _ _ _⟩, ⟨by (with_reducible repeat (first | refine blk_drewN ?_ _ | refine blk_drew ?_ | refine blk_alloc ?_ _)); exact BK108.out⟩, ⟨by (with_reducible repeat (first | refine blk_drewN ?_ _ | refine blk_drew ?_ | refine blk_alloc ?_ _)); exact BK136.out⟩, ⟨by repeat (first | (with_reducible first | exact HI0.out | apply IsS92.alloc | apply IsS92.drewN | apply IsS92.drew | apply IsS92.set_0 | apply IsS92.set_1 | refine IsS92.far ?_ NB0_108.out _ | refine IsS92.far ?_ NB0_136.out _) | exact HI0.out)⟩, ⟨by repeat (first | (with_reducible first | exact HK.out | apply KeepBut.set_ | apply keep_drewN | apply keep_drew | apply keep_alloc | refine keep_far ?_ GW108.out _ | refine keep_far ?_ GW136.out _) | exact HK.out)⟩, ⟨by repeat (first | (with_reducible first | exact HB.out | apply below_alloc | apply pw_below_drewN | apply below_drew1 | refine below_set ?_ (IsS92.ge HI0.out) | refine below_set ?_ GE108.out | refine below_set ?_ GE136.out) | exact HB.out)⟩⟩
  case round =>
    clear H'
    try clear c2
    try clear p2
    try clear c3
    try clear c5
    try clear p6
    try clear c21
    try clear c22
    try clear hcz23_0
    try clear hcz23_1
    try clear hcz23_10
    try clear hcz23_11
    try clear hcz23_12
    try clear hcz23_2
    try clear hcz23_3
    try clear hcz23_4
    try clear hcz23_5
    try clear hcz23_6
    try clear hcz23_7
    try clear hcz23_8
    try clear hcz23_9
    try clear hfz23_0
    try clear hfz23_1
    try clear hfz23_10
    try clear hfz23_11
    try clear hfz23_12
    try clear hfz23_2
    try clear hfz23_3
    try clear hfz23_4
    try clear hfz23_5
    try clear hfz23_6
    try clear hfz23_7
    try clear hfz23_8
    try clear hfz23_9
    obtain ⟨x26_1, x1000_1, x1001_1, x137011_1, u137011, rfl, HA, HK1, HO_137011, BK108, BK136, HI0, HK, HB⟩ := hrel
    cases gk with
    | zero => exact absurd HA.out (by simp [letter_readAsk.l0])
    | succ k1 =>
      have H := HA.out
      clear HA
      simp only [letter_readAsk.l0] at H
      by_cases c25 : x26_1 < t137
      · rw [if_pos c25] at H
        have c25b0 : decide (x26_1 < t137) = true := decide_eq_true c25
        clear c25
        replace H := Option.bind_eq_some_iff.mp H
        obtain ⟨⟨t140, t141, t142⟩, A260, H⟩ := H
        replace H : ((pack_Reader_Flag.f t141 t142).bind fun bt143 => ((pack_Reader_Text.f k1 bt143.2.1 bt143.2.2 0 256).bind fun bt146 => (if x137011_1.length < 3518437208883 then (letter_readAsk.l0 k1 t137 (wrap64 (x26_1 + 1)) bt146.2.1 bt146.2.2 (wrap64 (t109)) t112 t113 t116 t117 t120 t121 t124 t127 (wrap64 (t130)) ((t133) % 256) (x137011_1 ++ [(⟨t140, bt146.1, bt143.1⟩ : S66)])) else (none)))) = some (r1, r2, r3, r4, r5, r6, r7, r8, r9, r10, r11, r12, r13, r14, r15) := H
        have A26 := Aside0.mk A260
        clear A260
        replace H := Option.bind_eq_some_iff.mp H
        obtain ⟨⟨t143, t144, t145⟩, A270, H⟩ := H
        replace H : ((pack_Reader_Text.f k1 t144 t145 0 256).bind fun bt146 => (if x137011_1.length < 3518437208883 then (letter_readAsk.l0 k1 t137 (wrap64 (x26_1 + 1)) bt146.2.1 bt146.2.2 (wrap64 (t109)) t112 t113 t116 t117 t120 t121 t124 t127 (wrap64 (t130)) ((t133) % 256) (x137011_1 ++ [(⟨t140, bt146.1, t143⟩ : S66)])) else (none))) = some (r1, r2, r3, r4, r5, r6, r7, r8, r9, r10, r11, r12, r13, r14, r15) := H
        have A27 := Aside0.mk A270
        clear A270
        replace H := Option.bind_eq_some_iff.mp H
        obtain ⟨⟨t146, t147, t148⟩, A280, H⟩ := H
        replace H : (if x137011_1.length < 3518437208883 then (letter_readAsk.l0 k1 t137 (wrap64 (x26_1 + 1)) t147 t148 (wrap64 (t109)) t112 t113 t116 t117 t120 t121 t124 t127 (wrap64 (t130)) ((t133) % 256) (x137011_1 ++ [(⟨t140, t146, t143⟩ : S66)])) else (none)) = some (r1, r2, r3, r4, r5, r6, r7, r8, r9, r10, r11, r12, r13, r14, r15) := H
        have A28 := Aside0.mk A280
        clear A280
        by_cases c29 : x137011_1.length < 3518437208883
        · rw [if_pos c29] at H
          have LMc29 := Aside0.mk c29
          clear c29
          obtain ⟨y149, hy149⟩ : ∃ y_ : List (S66), y_ = (x137011_1 ++ [(⟨t140, t146, t143⟩ : S66)]) := ⟨_, rfl⟩
          replace H : (letter_readAsk.l0 k1 t137 (wrap64 (x26_1 + 1)) t147 t148 (wrap64 (t109)) t112 t113 t116 t117 t120 t121 t124 t127 (wrap64 (t130)) ((t133) % 256) y149) = some (r1, r2, r3, r4, r5, r6, r7, r8, r9, r10, r11, r12, r13, r14, r15) := by first | (rw [hy149]; with_reducible exact H) | (have H2_ := (Option.bind_some _ _).symm.trans H; rw [hy149]; with_reducible exact H2_) | (have H2_ := (Option.bind_some _ _).symm.trans H; with_reducible exact H2_) | with_reducible exact H | (rw [hy149]; exact H) | exact H
          have Ny149 := Aside0.mk hy149
          clear hy149
          have H' := Aside0.mk H
          clear H
          try go_wp2
          have n0_ := Aside0.mk (Kd.R_drew HO_137011.out)
          have n1_ := Aside0.mk (blk_drew BK108.out)
          have n2_ := Aside0.mk (blk_drew BK136.out)
          have n3_ := Aside0.mk (IsS92.drew HI0.out)
          have n4_ := Aside0.mk (keep_drew HK.out)
          have n5_ := Aside0.mk (below_drew1 HB.out)
          clear HO_137011
          clear BK108
          clear BK136
          clear HI0
          clear HK
          clear HB
          have HO_137011 := n0_
          have BK108 := n1_
          have BK136 := n2_
          have HI0 := n3_
          have HK := n4_
          have HB := n5_
          clear n0_ n1_ n2_ n3_ n4_ n5_
          refine start_ (n := 13) (S := fun w' => w'.cell? ⟨gb136, 0, none⟩ = some (.int .i64 (wrap64 (t109))) ∧ w'.cell? ⟨gb136, 1, none⟩ = some (.int .u32 t112) ∧ w'.cell? ⟨gb136, 2, none⟩ = some (.int .u32 t113) ∧ w'.cell? ⟨gb136, 3, none⟩ = some (.int .u64 t116) ∧ w'.cell? ⟨gb136, 4, none⟩ = some (.int .u32 t117) ∧ w'.cell? ⟨gb136, 5, none⟩ = some (.int .u64 t120) ∧ w'.cell? ⟨gb136, 6, none⟩ = some (.int .u32 t121) ∧ w'.cell? ⟨gb136, 7, none⟩ = some (.string t124) ∧ w'.cell? ⟨gb136, 8, none⟩ = some (.string t127) ∧ w'.cell? ⟨gb136, 9, none⟩ = some (.int .i64 (wrap64 (t130))) ∧ w'.cell? ⟨gb136, 10, none⟩ = some (.int .u8 ((t133) % 256)) ∧ w'.cell? ⟨gb136, 11, none⟩ = some (u137011) ∧ w'.cell? ⟨gb136, 12, none⟩ = some (.slice none 0 0)) (ds := [12]) #[false, false, false, false, false, false, false, false, false, false, false, false, false] (by kernel_rfl) rfl rfl ⟨(blk_cell BK136.out 0).trans rfl, (blk_cell BK136.out 1).trans rfl, (blk_cell BK136.out 2).trans rfl, (blk_cell BK136.out 3).trans rfl, (blk_cell BK136.out 4).trans rfl, (blk_cell BK136.out 5).trans rfl, (blk_cell BK136.out 6).trans rfl, (blk_cell BK136.out 7).trans rfl, (blk_cell BK136.out 8).trans rfl, (blk_cell BK136.out 9).trans rfl, (blk_cell BK136.out 10).trans rfl, (blk_cell BK136.out 11).trans rfl, (blk_cell BK136.out 12).trans rfl⟩ (fun hHeld => ?_); refine with_tabW letter_readAsk.tab4 letter_readAsk.bits4 (fun HT_ HW_ => ?_)
          generalize wr.drew = w30 at HO_137011 BK108 BK136 HI0 HK HB hHeld ⊢
          refine pure_ (i := 0) (N := some 28) (v := ?_) (a' := ?_) #[true, false, false, false, false, false, false, false, false, false, false, false, false] rfl rfl (any_of HT_.out (by kernel_rfl)) (fun _ _ _ h => h) (Or.inl ⟨by rfl, ?_⟩) ?_ ?_
          rotate_left
          · intro w'
            go_simp
            with_reducible rfl
          rotate_left
          · simp only [Act.put, List.setIfInBounds_toArray, List.set_cons_zero, List.set_cons_succ, i64_w, i32_w]
            rfl
          refine pure_ (i := 2) (N := some 30) (v := ?_) (a' := ?_) #[true, false, true, false, false, false, false, false, false, false, false, false, false] rfl rfl (any_of HT_.out (by kernel_rfl)) (fun _ _ _ h => h) (Or.inl ⟨by rfl, ?_⟩) ?_ ?_
          rotate_left
          · intro w'
            go_simp
            with_reducible rfl
          rotate_left
          · simp only [Act.put, List.setIfInBounds_toArray, List.set_cons_zero, List.set_cons_succ, i64_w, i32_w]
            rfl
          refine pure_ (i := 4) (N := some 32) (v := ?_) (a' := ?_) #[true, false, true, false, true, false, false, false, false, false, false, false, false] rfl rfl (any_of HT_.out (by kernel_rfl)) (fun _ _ _ h => h) (Or.inl ⟨by rfl, ?_⟩) ?_ ?_
          rotate_left
          · intro w'
            go_simp
            with_reducible rfl
          rotate_left
          · simp only [Act.put, List.setIfInBounds_toArray, List.set_cons_zero, List.set_cons_succ, i64_w, i32_w]
            rfl
          refine pure_ (i := 6) (N := some 34) (v := ?_) (a' := ?_) #[true, false, true, false, true, false, true, false, false, false, false, false, false] rfl rfl (any_of HT_.out (by kernel_rfl)) (fun _ _ _ h => h) (Or.inl ⟨by rfl, ?_⟩) ?_ ?_
          rotate_left
          · intro w'
            go_simp
            with_reducible rfl
          rotate_left
          · simp only [Act.put, List.setIfInBounds_toArray, List.set_cons_zero, List.set_cons_succ, i64_w, i32_w]
            rfl
          refine take_ (i := 1) (N := some 29) (v := ?_) (a' := ?_) #[true, true, true, false, true, false, true, false, false, false, false, false, false] rfl rfl (take_ofW HT_.out HW_.out (by kernel_rfl)) (fun _ _ _ h => h) (Or.inl ⟨by rfl, ?_⟩) hHeld ?_ ?_
          rotate_left
          · rintro w' ⟨s0, s1, s2, s3, s4, s5, s6, s7, s8, s9, s10, s11, s12⟩
            go_simp
            with_reducible rfl
          rotate_left
          · simp only [Act.put, List.setIfInBounds_toArray, List.set_cons_zero, List.set_cons_succ, i64_w, i32_w]
            rfl
          refine one_ (i := 3) (N := some 31) #[true, true, true, true, true, false, true, false, false, false, false, false, false] rfl rfl (one_of HT_.out (by kernel_rfl)) (by decide) (fun K hK => ?_)
          refine goes_ Try.func52 (by kernel_rfl) rfl #[.pointer (some ⟨g, 0, none⟩), .int .i64 0, .int .i64 32] (by rfl) rfl rfl (by (try simp only [List.map_toArray, List.map_cons, List.map_nil]); first | done | rfl | (simp only [List.length_drop, List.length_take]; rfl)) ?_
          with_reducible refine (pack_Reader_Text.calls k1 g x1000_1 x1001_1 0 32 t140 t141 t142 w0 _ ?side1 ?side2 A26.out).mono ?_
          (case side1 => repeat (first | (with_reducible first | exact HI0.out | apply IsS92.alloc | apply IsS92.drewN | apply IsS92.drew | apply IsS92.set_0 | apply IsS92.set_1 | refine IsS92.far ?_ NB0_108.out _ | refine IsS92.far ?_ NB0_136.out _) | exact HI0.out))
          (case side2 => repeat (first | (with_reducible first | exact HB.out | apply below_alloc | apply pw_below_drewN | apply below_drew1 | refine below_set ?_ (IsS92.ge HI0.out) | refine below_set ?_ GE108.out | refine below_set ?_ GE136.out) | exact HB.out))
          rintro e w31 ⟨rfl, hi, hb, hk⟩
          refine ⟨_, rfl, ?_⟩
          have n0_ := Aside0.mk (Kd.R_mono (Kd.R_keep (IsS92.apart (show IsS92 w0 _ g x1000_1 x1001_1 from by repeat (first | (with_reducible first | exact HI0.out | apply IsS92.alloc | apply IsS92.drewN | apply IsS92.drew | apply IsS92.set_0 | apply IsS92.set_1 | refine IsS92.far ?_ NB0_108.out _ | refine IsS92.far ?_ NB0_136.out _) | exact HI0.out)) (by (with_reducible repeat (first | apply Kd.R_alloc | apply Kd.R_drewN | apply Kd.R_drew)); exact HO_137011.out) (by decide)) hk (fun _ h => h.2)) (fun _ h => h.1))
          have n1_ := Aside0.mk (KeepBut.blk hk (g' := gb108) (o := .cells #[.int .i64 0, .int .u32 0, .int .u32 0, .int .u64 0, .int .u32 0, .int .u64 0, .int .u32 0, .string (⟨#[]⟩ : ByteArray), .string (⟨#[]⟩ : ByteArray), .int .i64 0, .int .u8 0, .slice none 0 0, .slice none 0 0] 31 (0, 0)) (by (with_reducible repeat (first | refine blk_drewN ?_ _ | refine blk_drew ?_ | refine blk_alloc ?_ _)); exact BK108.out) NB108_0.out (by simp))
          have n2_ := Aside0.mk (KeepBut.blk hk (g' := gb136) (o := .cells #[.int .i64 (wrap64 (t109)), .int .u32 t112, .int .u32 t113, .int .u64 t116, .int .u32 t117, .int .u64 t120, .int .u32 t121, .string t124, .string t127, .int .i64 (wrap64 (t130)), .int .u8 ((t133) % 256), u137011, .slice none 0 0] 31 (0, 0)) (by (with_reducible repeat (first | refine blk_drewN ?_ _ | refine blk_drew ?_ | refine blk_alloc ?_ _)); exact BK136.out) NB136_0.out (by simp))
          have n3_ := Aside0.mk (KeepBut.trans (by repeat (first | (with_reducible first | exact HK.out | apply KeepBut.set_ | apply keep_drewN | apply keep_drew | apply keep_alloc | refine keep_far ?_ GW108.out _ | refine keep_far ?_ GW136.out _) | exact HK.out)) hk (.inl rfl))
          have n4_ := Aside0.mk (hb)
          have n5_ := Aside0.mk (hi)
          clear HO_137011
          clear BK108
          clear BK136
          clear HK
          clear HB
          clear HI0
          have HO_137011 := n0_
          have BK108 := n1_
          have BK136 := n2_
          have HK := n3_
          have HB := n4_
          have HI0 := n5_
          clear n0_ n1_ n2_ n3_ n4_ n5_
          (try clear hb)
          (try clear hb2)
          (try clear hk)
          (try clear hi)
          refine hK.out _ _ ⟨(blk_cell BK136.out 0).trans rfl, (blk_cell BK136.out 1).trans rfl, (blk_cell BK136.out 2).trans rfl, (blk_cell BK136.out 3).trans rfl, (blk_cell BK136.out 4).trans rfl, (blk_cell BK136.out 5).trans rfl, (blk_cell BK136.out 6).trans rfl, (blk_cell BK136.out 7).trans rfl, (blk_cell BK136.out 8).trans rfl, (blk_cell BK136.out 9).trans rfl, (blk_cell BK136.out 10).trans rfl, (blk_cell BK136.out 11).trans rfl, (blk_cell BK136.out 12).trans rfl⟩ (fun hHeld => ?_)
          clear hK K
          refine norm_ (a' := ?_) ?_ ?_
          rotate_left
          · show Act.put _ (some 31) _ = _
            simp only [Act.put, List.setIfInBounds_toArray, List.set_cons_zero, List.set_cons_succ, i64_w, i32_w]
            rfl
          refine one_ (i := 5) (N := some 33) #[true, true, true, true, true, true, true, false, false, false, false, false, false] rfl rfl (one_of HT_.out (by kernel_rfl)) (by decide) (fun K hK => ?_)
          refine goes_ Try.func30 (by kernel_rfl) rfl #[.pointer (some ⟨g, 0, none⟩)] (by rfl) rfl rfl (by (try simp only [List.map_toArray, List.map_cons, List.map_nil]); first | done | rfl | (simp only [List.length_drop, List.length_take]; rfl)) ?_
          with_reducible refine (pack_Reader_Flag.calls g t141 t142 t143 t144 t145 w0 _ ?side1 ?side2 A27.out).mono ?_
          (case side1 => repeat (first | (with_reducible first | exact HI0.out | apply IsS92.alloc | apply IsS92.drewN | apply IsS92.drew | apply IsS92.set_0 | apply IsS92.set_1 | refine IsS92.far ?_ NB0_108.out _ | refine IsS92.far ?_ NB0_136.out _) | exact HI0.out))
          (case side2 => repeat (first | (with_reducible first | exact HB.out | apply below_alloc | apply pw_below_drewN | apply below_drew1 | refine below_set ?_ (IsS92.ge HI0.out) | refine below_set ?_ GE108.out | refine below_set ?_ GE136.out) | exact HB.out))
          rintro e w32 ⟨rfl, hi, hb, hk⟩
          refine ⟨_, rfl, ?_⟩
          have n0_ := Aside0.mk (Kd.R_mono (Kd.R_keep (IsS92.apart (show IsS92 w0 _ g t141 t142 from by repeat (first | (with_reducible first | exact HI0.out | apply IsS92.alloc | apply IsS92.drewN | apply IsS92.drew | apply IsS92.set_0 | apply IsS92.set_1 | refine IsS92.far ?_ NB0_108.out _ | refine IsS92.far ?_ NB0_136.out _) | exact HI0.out)) (by (with_reducible repeat (first | apply Kd.R_alloc | apply Kd.R_drewN | apply Kd.R_drew)); exact HO_137011.out) (by decide)) hk (fun _ h => h.2)) (fun _ h => h.1))
          have n1_ := Aside0.mk (KeepBut.blk hk (g' := gb108) (o := .cells #[.int .i64 0, .int .u32 0, .int .u32 0, .int .u64 0, .int .u32 0, .int .u64 0, .int .u32 0, .string (⟨#[]⟩ : ByteArray), .string (⟨#[]⟩ : ByteArray), .int .i64 0, .int .u8 0, .slice none 0 0, .slice none 0 0] 31 (0, 0)) (by (with_reducible repeat (first | refine blk_drewN ?_ _ | refine blk_drew ?_ | refine blk_alloc ?_ _)); exact BK108.out) NB108_0.out (by simp))
          have n2_ := Aside0.mk (KeepBut.blk hk (g' := gb136) (o := .cells #[.int .i64 (wrap64 (t109)), .int .u32 t112, .int .u32 t113, .int .u64 t116, .int .u32 t117, .int .u64 t120, .int .u32 t121, .string t124, .string t127, .int .i64 (wrap64 (t130)), .int .u8 ((t133) % 256), u137011, .slice none 0 0] 31 (0, 0)) (by (with_reducible repeat (first | refine blk_drewN ?_ _ | refine blk_drew ?_ | refine blk_alloc ?_ _)); exact BK136.out) NB136_0.out (by simp))
          have n3_ := Aside0.mk (KeepBut.trans (by repeat (first | (with_reducible first | exact HK.out | apply KeepBut.set_ | apply keep_drewN | apply keep_drew | apply keep_alloc | refine keep_far ?_ GW108.out _ | refine keep_far ?_ GW136.out _) | exact HK.out)) hk (.inl rfl))
          have n4_ := Aside0.mk (hb)
          have n5_ := Aside0.mk (hi)
          clear HO_137011
          clear BK108
          clear BK136
          clear HK
          clear HB
          clear HI0
          have HO_137011 := n0_
          have BK108 := n1_
          have BK136 := n2_
          have HK := n3_
          have HB := n4_
          have HI0 := n5_
          clear n0_ n1_ n2_ n3_ n4_ n5_
          (try clear hb)
          (try clear hb2)
          (try clear hk)
          (try clear hi)
          refine hK.out _ _ ⟨(blk_cell BK136.out 0).trans rfl, (blk_cell BK136.out 1).trans rfl, (blk_cell BK136.out 2).trans rfl, (blk_cell BK136.out 3).trans rfl, (blk_cell BK136.out 4).trans rfl, (blk_cell BK136.out 5).trans rfl, (blk_cell BK136.out 6).trans rfl, (blk_cell BK136.out 7).trans rfl, (blk_cell BK136.out 8).trans rfl, (blk_cell BK136.out 9).trans rfl, (blk_cell BK136.out 10).trans rfl, (blk_cell BK136.out 11).trans rfl, (blk_cell BK136.out 12).trans rfl⟩ (fun hHeld => ?_)
          clear hK K
          refine norm_ (a' := ?_) ?_ ?_
          rotate_left
          · show Act.put _ (some 33) _ = _
            simp only [Act.put, List.setIfInBounds_toArray, List.set_cons_zero, List.set_cons_succ, i64_w, i32_w]
            rfl
          refine one_ (i := 7) (N := some 35) #[true, true, true, true, true, true, true, true, false, false, false, false, false] rfl rfl (one_of HT_.out (by kernel_rfl)) (by decide) (fun K hK => ?_)
          refine goes_ Try.func52 (by kernel_rfl) rfl #[.pointer (some ⟨g, 0, none⟩), .int .i64 0, .int .i64 256] (by rfl) rfl rfl (by (try simp only [List.map_toArray, List.map_cons, List.map_nil]); first | done | rfl | (simp only [List.length_drop, List.length_take]; rfl)) ?_
          with_reducible refine (pack_Reader_Text.calls k1 g t144 t145 0 256 t146 t147 t148 w0 _ ?side1 ?side2 A28.out).mono ?_
          (case side1 => repeat (first | (with_reducible first | exact HI0.out | apply IsS92.alloc | apply IsS92.drewN | apply IsS92.drew | apply IsS92.set_0 | apply IsS92.set_1 | refine IsS92.far ?_ NB0_108.out _ | refine IsS92.far ?_ NB0_136.out _) | exact HI0.out))
          (case side2 => repeat (first | (with_reducible first | exact HB.out | apply below_alloc | apply pw_below_drewN | apply below_drew1 | refine below_set ?_ (IsS92.ge HI0.out) | refine below_set ?_ GE108.out | refine below_set ?_ GE136.out) | exact HB.out))
          rintro e w33 ⟨rfl, hi, hb, hk⟩
          refine ⟨_, rfl, ?_⟩
          have n0_ := Aside0.mk (Kd.R_mono (Kd.R_keep (IsS92.apart (show IsS92 w0 _ g t144 t145 from by repeat (first | (with_reducible first | exact HI0.out | apply IsS92.alloc | apply IsS92.drewN | apply IsS92.drew | apply IsS92.set_0 | apply IsS92.set_1 | refine IsS92.far ?_ NB0_108.out _ | refine IsS92.far ?_ NB0_136.out _) | exact HI0.out)) (by (with_reducible repeat (first | apply Kd.R_alloc | apply Kd.R_drewN | apply Kd.R_drew)); exact HO_137011.out) (by decide)) hk (fun _ h => h.2)) (fun _ h => h.1))
          have n1_ := Aside0.mk (KeepBut.blk hk (g' := gb108) (o := .cells #[.int .i64 0, .int .u32 0, .int .u32 0, .int .u64 0, .int .u32 0, .int .u64 0, .int .u32 0, .string (⟨#[]⟩ : ByteArray), .string (⟨#[]⟩ : ByteArray), .int .i64 0, .int .u8 0, .slice none 0 0, .slice none 0 0] 31 (0, 0)) (by (with_reducible repeat (first | refine blk_drewN ?_ _ | refine blk_drew ?_ | refine blk_alloc ?_ _)); exact BK108.out) NB108_0.out (by simp))
          have n2_ := Aside0.mk (KeepBut.blk hk (g' := gb136) (o := .cells #[.int .i64 (wrap64 (t109)), .int .u32 t112, .int .u32 t113, .int .u64 t116, .int .u32 t117, .int .u64 t120, .int .u32 t121, .string t124, .string t127, .int .i64 (wrap64 (t130)), .int .u8 ((t133) % 256), u137011, .slice none 0 0] 31 (0, 0)) (by (with_reducible repeat (first | refine blk_drewN ?_ _ | refine blk_drew ?_ | refine blk_alloc ?_ _)); exact BK136.out) NB136_0.out (by simp))
          have n3_ := Aside0.mk (KeepBut.trans (by repeat (first | (with_reducible first | exact HK.out | apply KeepBut.set_ | apply keep_drewN | apply keep_drew | apply keep_alloc | refine keep_far ?_ GW108.out _ | refine keep_far ?_ GW136.out _) | exact HK.out)) hk (.inl rfl))
          have n4_ := Aside0.mk (hb)
          have n5_ := Aside0.mk (hi)
          clear HO_137011
          clear BK108
          clear BK136
          clear HK
          clear HB
          clear HI0
          have HO_137011 := n0_
          have BK108 := n1_
          have BK136 := n2_
          have HK := n3_
          have HB := n4_
          have HI0 := n5_
          clear n0_ n1_ n2_ n3_ n4_ n5_
          (try clear hb)
          (try clear hb2)
          (try clear hk)
          (try clear hi)
          refine hK.out _ _ ⟨(blk_cell BK136.out 0).trans rfl, (blk_cell BK136.out 1).trans rfl, (blk_cell BK136.out 2).trans rfl, (blk_cell BK136.out 3).trans rfl, (blk_cell BK136.out 4).trans rfl, (blk_cell BK136.out 5).trans rfl, (blk_cell BK136.out 6).trans rfl, (blk_cell BK136.out 7).trans rfl, (blk_cell BK136.out 8).trans rfl, (blk_cell BK136.out 9).trans rfl, (blk_cell BK136.out 10).trans rfl, (blk_cell BK136.out 11).trans rfl, (blk_cell BK136.out 12).trans rfl⟩ (fun hHeld => ?_)
          clear hK K
          refine norm_ (a' := ?_) ?_ ?_
          rotate_left
          · show Act.put _ (some 35) _ = _
            simp only [Act.put, List.setIfInBounds_toArray, List.set_cons_zero, List.set_cons_succ, i64_w, i32_w]
            rfl
          refine pure_ (i := 8) (N := some 36) (v := ?_) (a' := ?_) #[true, true, true, true, true, true, true, true, true, false, false, false, false] rfl rfl (any_of HT_.out (by kernel_rfl)) (fun _ _ _ h => h) (Or.inl ⟨by rfl, ?_⟩) ?_ ?_
          rotate_left
          · intro w'
            go_simp
            with_reducible rfl
          rotate_left
          · simp only [Act.put, List.setIfInBounds_toArray, List.set_cons_zero, List.set_cons_succ, i64_w, i32_w]
            rfl
          refine one_ (i := 9) (N := some 37) #[true, true, true, true, true, true, true, true, true, true, false, false, false] rfl rfl (one_of HT_.out (by kernel_rfl)) (by decide) (fun K hK => ?_)
          refine value_ (w1 := ?_) (v := ?_) (by rfl) rfl ?_ ?_
          rotate_left 2
          · go_simp
            constructor
            · rfl
            · rfl
          refine hK.out _ _ ⟨(blk_cell (blk_alloc BK136.out _) 0).trans rfl, (blk_cell (blk_alloc BK136.out _) 1).trans rfl, (blk_cell (blk_alloc BK136.out _) 2).trans rfl, (blk_cell (blk_alloc BK136.out _) 3).trans rfl, (blk_cell (blk_alloc BK136.out _) 4).trans rfl, (blk_cell (blk_alloc BK136.out _) 5).trans rfl, (blk_cell (blk_alloc BK136.out _) 6).trans rfl, (blk_cell (blk_alloc BK136.out _) 7).trans rfl, (blk_cell (blk_alloc BK136.out _) 8).trans rfl, (blk_cell (blk_alloc BK136.out _) 9).trans rfl, (blk_cell (blk_alloc BK136.out _) 10).trans rfl, (blk_cell (blk_alloc BK136.out _) 11).trans rfl, (blk_cell (blk_alloc BK136.out _) 12).trans rfl⟩ (fun hHeld => ?_)
          clear hK K
          refine norm_ (a' := ?_) ?_ ?_
          rotate_left
          · show Act.put _ (some 37) _ = _
            simp only [Act.put, List.setIfInBounds_toArray, List.set_cons_zero, List.set_cons_succ, i64_w, i32_w]
            rfl
          refine one_ (i := 10) (N := some 38) #[true, true, true, true, true, true, true, true, true, true, true, false, false] rfl rfl (one_of HT_.out (by kernel_rfl)) (by decide) (fun K hK => ?_)
          refine Kd.R_append_step k66 w.heap.size (by rfl) (.tmp 29) (.tmp 37) 28 66 (.agg #[(.string ⟨#[]⟩), (.string ⟨#[]⟩), (.bool false)]) 40 rfl Try.underlying28 info66 rfl (by decide) (by omega) u137011 x137011_1 (⟨t140, t146, t143⟩ : S66) [.string t140, .string t146, .bool t143] (fun _ => True) (fun _ => False) rfl rfl ?aP (fun _ hk => hk.elim) ?aF ?aO (Below.refl _ _) ?aS ?aL ?_
          (case aP => exact k66_mkM _ _ _ (⟨t140, t146, t143⟩ : S66))
          (case aF => exact (fun _ _ => trivial))
          (case aO => exact (by (with_reducible repeat (first | apply Kd.R_alloc | apply Kd.R_drewN | apply Kd.R_drew)); exact HO_137011.out))
          (case aS => exact (keep_size (w := w) (g := g) (row := none) (by repeat (first | (with_reducible first | exact HK.out | apply KeepBut.set_ | apply keep_drewN | apply keep_drew | apply keep_alloc | refine keep_far ?_ GW108.out _ | refine keep_far ?_ GW136.out _) | exact HK.out))))
          (case aL => have := LMc29.out; omega)
          intro v150 w34 ho hb hg hat
          rw [← Ny149.out] at ho
          have n0_ := Aside0.mk (blk_grown (g := gb108) (o := .cells #[.int .i64 0, .int .u32 0, .int .u32 0, .int .u64 0, .int .u32 0, .int .u64 0, .int .u32 0, .string (⟨#[]⟩ : ByteArray), .string (⟨#[]⟩ : ByteArray), .int .i64 0, .int .u8 0, .slice none 0 0, .slice none 0 0] 31 (0, 0)) (by (with_reducible repeat (first | refine blk_drewN ?_ _ | refine blk_drew ?_ | refine blk_alloc ?_ _)); exact BK108.out) hg (Kd.R_ne HO_137011.out BK108.out (by decide)))
          have n1_ := Aside0.mk (blk_grown (g := gb136) (o := .cells #[.int .i64 (wrap64 (t109)), .int .u32 t112, .int .u32 t113, .int .u64 t116, .int .u32 t117, .int .u64 t120, .int .u32 t121, .string t124, .string t127, .int .i64 (wrap64 (t130)), .int .u8 ((t133) % 256), u137011, .slice none 0 0] 31 (0, 0)) (by (with_reducible repeat (first | refine blk_drewN ?_ _ | refine blk_drew ?_ | refine blk_alloc ?_ _)); exact BK136.out) hg (Kd.R_ne HO_137011.out BK136.out (by decide)))
          have n2_ := Aside0.mk (IsS92.grown (by repeat (first | (with_reducible first | exact HI0.out | apply IsS92.alloc | apply IsS92.drewN | apply IsS92.drew | apply IsS92.set_0 | apply IsS92.set_1 | refine IsS92.far ?_ NB0_108.out _ | refine IsS92.far ?_ NB0_136.out _) | exact HI0.out)) hg (IsS92.own_ne HI0.out HO_137011.out (by decide)))
          have n3_ := Aside0.mk (below_weaken (by repeat (first | (with_reducible first | exact HB.out | apply below_alloc | apply pw_below_drewN | apply below_drew1 | refine below_set ?_ (IsS92.ge HI0.out) | refine below_set ?_ GE108.out | refine below_set ?_ GE136.out) | exact HB.out)) HL.out hb)
          have n4_ := Aside0.mk (KeepBut.trans (by repeat (first | (with_reducible first | exact HK.out | apply KeepBut.set_ | apply keep_drewN | apply keep_drew | apply keep_alloc | refine keep_far ?_ GW108.out _ | refine keep_far ?_ GW136.out _) | exact HK.out)) (KeepBut.of_grown hg g) (Kd.R_base2 HO_137011.out))
          have n5_ := Aside0.mk (ho)
          clear BK108
          clear BK136
          clear HI0
          clear HB
          clear HK
          clear HO_137011
          have BK108 := n0_
          have BK136 := n1_
          have HI0 := n2_
          have HB := n3_
          have HK := n4_
          have HO151 := n5_
          clear n0_ n1_ n2_ n3_ n4_ n5_
          clear ho hb hg hat
          obtain ⟨Ao35, co35, eo35⟩ := Kd.R_slice HO151.out
          (first | subst eo35 | (injection eo35 with f1_ f2_ f3_; have f4_ := f1_.symm; have f5_ := f3_.symm; clear f1_ f2_ f3_; subst f4_; subst f5_))
          refine hK.out _ _ ⟨(blk_cell BK136.out 0).trans rfl, (blk_cell BK136.out 1).trans rfl, (blk_cell BK136.out 2).trans rfl, (blk_cell BK136.out 3).trans rfl, (blk_cell BK136.out 4).trans rfl, (blk_cell BK136.out 5).trans rfl, (blk_cell BK136.out 6).trans rfl, (blk_cell BK136.out 7).trans rfl, (blk_cell BK136.out 8).trans rfl, (blk_cell BK136.out 9).trans rfl, (blk_cell BK136.out 10).trans rfl, (blk_cell BK136.out 11).trans rfl, (blk_cell BK136.out 12).trans rfl⟩ (fun hHeld => ?_)
          clear hK K
          refine norm_ (a' := ?_) ?_ ?_
          rotate_left
          · show Act.put _ (some 38) _ = _
            simp only [Act.put, List.setIfInBounds_toArray, List.set_cons_zero, List.set_cons_succ, i64_w, i32_w]
            rfl
          refine pure_ (i := 11) (N := some 39) (v := ?_) (a' := ?_) #[true, true, true, true, true, true, true, true, true, true, true, true, false] rfl rfl (any_of HT_.out (by kernel_rfl)) (fun _ _ _ h => h) (Or.inl ⟨by rfl, ?_⟩) ?_ ?_
          rotate_left
          · intro w'
            go_simp
            with_reducible rfl
          rotate_left
          · simp only [Act.put, List.setIfInBounds_toArray, List.set_cons_zero, List.set_cons_succ, i64_w, i32_w]
            rfl
          refine last_ (i := 12) (N := none) #[true, true, true, true, true, true, true, true, true, true, true, true, true] rfl rfl (one_of HT_.out (by kernel_rfl)) (by decide) (fun K hK => ?_)
          have hs36 : w34.cell? ⟨gb136, 11, none⟩ = some (u137011) := (blk_cell BK136.out 11).trans rfl
          have hfs36 := blk_frozen BK136.out 11
          have hns36_0 := NB108_136.out
          have hms36_0 := NB136_108.out
          refine skip_ (w1 := ?_) (by rfl) rfl ?_ ?_
          rotate_left
          · go_simp
            rfl
          refine hK.out _ _ ?_
          clear hK K
          refine done_ (done_of HT_.out (by kernel_rfl)) ?_
          try go_wp2
          go_roundg k1
          case measure => have := HK1.out; omega
          case rel => exact ⟨(wrap64 (x26_1 + 1)), (t147), (t148), (y149), (.slice Ao35 y149.length co35), (by first | rfl | (simp; done) | (simp [*]; done)), H', ⟨by have := HK1.out; omega⟩, ⟨by (with_reducible repeat (first | apply Kd.R_alloc | apply Kd.R_drewN | apply Kd.R_drew)); exact Kd.R_mono (Kd.R_far (p := ⟨gb136, 11, none⟩) (Kd.R_types HO151.out BK136.out (by decide)) (fun _ hk => hk.2) (.slice Ao35 y149.length co35)) (fun _ hk => trivial)⟩, ⟨by (with_reducible repeat (first | refine blk_drewN ?_ _ | refine blk_drew ?_ | refine blk_alloc ?_ _)); refine blk_far ?_ NB108_136.out _; (with_reducible repeat (first | refine blk_drewN ?_ _ | refine blk_drew ?_ | refine blk_alloc ?_ _)); exact BK108.out⟩, ⟨by (with_reducible repeat (first | refine blk_drewN ?_ _ | refine blk_drew ?_ | refine blk_alloc ?_ _)); refine blk_put (cs := #[.int .i64 (wrap64 (t109)), .int .u32 t112, .int .u32 t113, .int .u64 t116, .int .u32 t117, .int .u64 t120, .int .u32 t121, .string t124, .string t127, .int .i64 (wrap64 (t130)), .int .u8 ((t133) % 256), u137011, .slice none 0 0]) ?_ 11 _ rfl; (with_reducible repeat (first | refine blk_drewN ?_ _ | refine blk_drew ?_ | refine blk_alloc ?_ _)); exact BK136.out⟩, ⟨by repeat (first | (with_reducible first | exact HI0.out | apply IsS92.alloc | apply IsS92.drewN | apply IsS92.drew | apply IsS92.set_0 | apply IsS92.set_1 | refine IsS92.far ?_ NB0_108.out _ | refine IsS92.far ?_ NB0_136.out _) | exact HI0.out)⟩, ⟨by repeat (first | (with_reducible first | exact HK.out | apply KeepBut.set_ | apply keep_drewN | apply keep_drew | apply keep_alloc | refine keep_far ?_ GW108.out _ | refine keep_far ?_ GW136.out _) | exact HK.out)⟩, ⟨by repeat (first | (with_reducible first | exact HB.out | apply below_alloc | apply pw_below_drewN | apply below_drew1 | refine below_set ?_ (IsS92.ge HI0.out) | refine below_set ?_ GE108.out | refine below_set ?_ GE136.out) | exact HB.out)⟩⟩
        · rw [if_neg c29] at H
          exact absurd H (by simp)
      · rw [if_neg c25] at H
        have c25b0 : decide (x26_1 < t137) = false := decide_eq_false c25
        clear c25
        replace H := Option.bind_eq_some_iff.mp H
        obtain ⟨⟨t152, t153, t154⟩, A370, H⟩ := H
        replace H : (letter_readAsk.l1 k1 t152 0 t153 t154 (wrap64 (t109)) t112 t113 t116 t117 t120 t121 t124 t127 (wrap64 (t130)) ((t133) % 256) x137011_1 ([] : List (S24))) = some (r1, r2, r3, r4, r5, r6, r7, r8, r9, r10, r11, r12, r13, r14, r15) := H
        have A37 := Aside0.mk A370
        clear A370
        have H' := Aside0.mk H
        clear H
        go_wp2_with (first | ((with_reducible refine gate_callee (f := 53) rfl ?_); refine goesL_ (some 42) rfl rfl Try.func53 (by kernel_rfl) rfl #[.pointer (some ⟨g, 0, none⟩), .int .i64 16] rfl (by (try simp only [List.map_toArray, List.map_cons, List.map_nil]); first | done | rfl | (simp only [List.length_drop, List.length_take]; rfl)) ?_; (with_reducible refine (pack_Reader_Count.calls g x1000_1 x1001_1 16 t152 t153 t154 w0 _ ?side1 ?side2 A37.out).mono ?_); (case side1 => repeat (first | (with_reducible first | exact HI0.out | apply IsS92.alloc | apply IsS92.drewN | apply IsS92.drew | apply IsS92.set_0 | apply IsS92.set_1 | refine IsS92.far ?_ NB0_108.out _ | refine IsS92.far ?_ NB0_136.out _) | exact HI0.out)); (case side2 => repeat (first | (with_reducible first | exact HB.out | apply below_alloc | apply pw_below_drewN | apply below_drew1 | refine below_set ?_ (IsS92.ge HI0.out) | refine below_set ?_ GE108.out | refine below_set ?_ GE136.out) | exact HB.out)); rintro e w38 ⟨rfl, hi, hb, hk⟩; refine ⟨_, rfl, ?_⟩; have n0_ := Aside0.mk (Kd.R_mono (Kd.R_keep (IsS92.apart (show IsS92 w0 _ g x1000_1 x1001_1 from by repeat (first | (with_reducible first | exact HI0.out | apply IsS92.alloc | apply IsS92.drewN | apply IsS92.drew | apply IsS92.set_0 | apply IsS92.set_1 | refine IsS92.far ?_ NB0_108.out _ | refine IsS92.far ?_ NB0_136.out _) | exact HI0.out)) (by (with_reducible repeat (first | apply Kd.R_alloc | apply Kd.R_drewN | apply Kd.R_drew)); exact HO_137011.out) (by decide)) hk (fun _ h => h.2)) (fun _ h => h.1)); have n1_ := Aside0.mk (KeepBut.blk hk (g' := gb108) (o := .cells #[.int .i64 0, .int .u32 0, .int .u32 0, .int .u64 0, .int .u32 0, .int .u64 0, .int .u32 0, .string (⟨#[]⟩ : ByteArray), .string (⟨#[]⟩ : ByteArray), .int .i64 0, .int .u8 0, .slice none 0 0, .slice none 0 0] 31 (0, 0)) (by (with_reducible repeat (first | refine blk_drewN ?_ _ | refine blk_drew ?_ | refine blk_alloc ?_ _)); exact BK108.out) NB108_0.out (by simp)); have n2_ := Aside0.mk (KeepBut.blk hk (g' := gb136) (o := .cells #[.int .i64 (wrap64 (t109)), .int .u32 t112, .int .u32 t113, .int .u64 t116, .int .u32 t117, .int .u64 t120, .int .u32 t121, .string t124, .string t127, .int .i64 (wrap64 (t130)), .int .u8 ((t133) % 256), u137011, .slice none 0 0] 31 (0, 0)) (by (with_reducible repeat (first | refine blk_drewN ?_ _ | refine blk_drew ?_ | refine blk_alloc ?_ _)); exact BK136.out) NB136_0.out (by simp)); have n3_ := Aside0.mk (KeepBut.trans (by repeat (first | (with_reducible first | exact HK.out | apply KeepBut.set_ | apply keep_drewN | apply keep_drew | apply keep_alloc | refine keep_far ?_ GW108.out _ | refine keep_far ?_ GW136.out _) | exact HK.out)) hk (.inl rfl)); have n4_ := Aside0.mk (hb); have n5_ := Aside0.mk (hi); clear HO_137011; clear BK108; clear BK136; clear HK; clear HB; clear HI0; have HO_137011 := n0_; have BK108 := n1_; have BK136 := n2_; have HK := n3_; have HB := n4_; have HI0 := n5_; clear n0_ n1_ n2_ n3_ n4_ n5_; (try clear hb); (try clear hb2); (try clear hk); (try clear hi)))
        go_loopg [43] k1 (fun kq v43 w' => ∃ (x43_2 : Int) (x1000_2 : ByteArray) (x1001_2 : Int) (x137012_2 : List (S24)) (u137012 : Value), v43 = .int .i64 x43_2 ∧ Aside0 (letter_readAsk.l1 kq t152 x43_2 x1000_2 x1001_2 (wrap64 (t109)) t112 t113 t116 t117 t120 t121 t124 t127 (wrap64 (t130)) ((t133) % 256) x137011_1 x137012_2 = some (r1, r2, r3, r4, r5, r6, r7, r8, r9, r10, r11, r12, r13, r14, r15)) ∧ Aside0 (kq ≤ k1) ∧ Aside0 (Kd.R k66 66 w' w.heap.size (fun _ => True) u137011 x137011_1) ∧ Aside0 (Kd.R k24 24 w' w.heap.size (fun _ => True) u137012 x137012_2) ∧ Aside0 (w'.heap[gb108]? = some (.cells #[.int .i64 0, .int .u32 0, .int .u32 0, .int .u64 0, .int .u32 0, .int .u64 0, .int .u32 0, .string (⟨#[]⟩ : ByteArray), .string (⟨#[]⟩ : ByteArray), .int .i64 0, .int .u8 0, (.slice none 0 0), (.slice none 0 0)] 31 (0, 0))) ∧ Aside0 (w'.heap[gb136]? = some (.cells #[.int .i64 (wrap64 (t109)), .int .u32 t112, .int .u32 t113, .int .u64 t116, .int .u32 t117, .int .u64 t120, .int .u32 t121, .string t124, .string t127, .int .i64 (wrap64 (t130)), .int .u8 ((t133) % 256), u137011, u137012] 31 (0, 0))) ∧ Aside0 (IsS92 w0 w' g x1000_2 x1001_2) ∧ Aside0 (KeepBut w w' g none) ∧ Aside0 (Below w0.heap.size w0 w'))
        case atStart => exact ⟨(0), (t153), (t154), (([] : List (S24))), (.slice none 0 0), (by first | rfl | (simp; done) | (simp [*]; done)), H', ⟨Nat.le_refl _⟩, ⟨by (with_reducible repeat (first | apply Kd.R_alloc | apply Kd.R_drewN | apply Kd.R_drew)); exact HO_137011.out⟩, ⟨by first | exact Kd.R_nil _ _ _ _ _ | exact Kd.N_nil _ _ _ _ _ | exact Kd.V_nil _ _ _ _ _ | exact Kd.Q_nil _ _ _ _ _ | exact Kd.S_nil _ _ _ _ _⟩, ⟨by (with_reducible repeat (first | refine blk_drewN ?_ _ | refine blk_drew ?_ | refine blk_alloc ?_ _)); exact BK108.out⟩, ⟨by (with_reducible repeat (first | refine blk_drewN ?_ _ | refine blk_drew ?_ | refine blk_alloc ?_ _)); exact BK136.out⟩, ⟨by repeat (first | (with_reducible first | exact HI0.out | apply IsS92.alloc | apply IsS92.drewN | apply IsS92.drew | apply IsS92.set_0 | apply IsS92.set_1 | refine IsS92.far ?_ NB0_108.out _ | refine IsS92.far ?_ NB0_136.out _) | exact HI0.out)⟩, ⟨by repeat (first | (with_reducible first | exact HK.out | apply KeepBut.set_ | apply keep_drewN | apply keep_drew | apply keep_alloc | refine keep_far ?_ GW108.out _ | refine keep_far ?_ GW136.out _) | exact HK.out)⟩, ⟨by repeat (first | (with_reducible first | exact HB.out | apply below_alloc | apply pw_below_drewN | apply below_drew1 | refine below_set ?_ (IsS92.ge HI0.out) | refine below_set ?_ GE108.out | refine below_set ?_ GE136.out) | exact HB.out)⟩⟩
        case round =>
          clear H'
          try clear c2
          try clear p2
          try clear c3
          try clear c5
          try clear p6
          try clear c21
          try clear c22
          try clear c25
          try clear c25b0
          try clear c29
          try clear c30
          try clear c32
          try clear hcz23_0
          try clear hcz23_1
          try clear hcz23_10
          try clear hcz23_11
          try clear hcz23_12
          try clear hcz23_2
          try clear hcz23_3
          try clear hcz23_4
          try clear hcz23_5
          try clear hcz23_6
          try clear hcz23_7
          try clear hcz23_8
          try clear hcz23_9
          try clear hfz23_0
          try clear hfz23_1
          try clear hfz23_10
          try clear hfz23_11
          try clear hfz23_12
          try clear hfz23_2
          try clear hfz23_3
          try clear hfz23_4
          try clear hfz23_5
          try clear hfz23_6
          try clear hfz23_7
          try clear hfz23_8
          try clear hfz23_9
          try clear p2
          try clear p6
          obtain ⟨x43_2, x1000_2, x1001_2, x137012_2, u137012, rfl, HA, HK2, HO_137011, HO_137012, BK108, BK136, HI0, HK, HB⟩ := hrel
          cases gk with
          | zero => exact absurd HA.out (by simp [letter_readAsk.l1])
          | succ k2 =>
            have H := HA.out
            clear HA
            simp only [letter_readAsk.l1] at H
            by_cases c39 : x43_2 < t152
            · rw [if_pos c39] at H
              have c39b0 : decide (x43_2 < t152) = true := decide_eq_true c39
              clear c39
              replace H := Option.bind_eq_some_iff.mp H
              obtain ⟨⟨t155, t156, t157, t158⟩, A400, H⟩ := H
              replace H : (if x137012_2.length < 17592186044416 then (letter_readAsk.l1 k2 t152 (wrap64 (x43_2 + 1)) t157 t158 (wrap64 (t109)) t112 t113 t116 t117 t120 t121 t124 t127 (wrap64 (t130)) ((t133) % 256) x137011_1 (x137012_2 ++ [(⟨t155, t156⟩ : S24)])) else (none)) = some (r1, r2, r3, r4, r5, r6, r7, r8, r9, r10, r11, r12, r13, r14, r15) := H
              have A40 := Aside0.mk A400
              clear A400
              by_cases c41 : x137012_2.length < 17592186044416
              · rw [if_pos c41] at H
                have LMc41 := Aside0.mk c41
                clear c41
                obtain ⟨y159, hy159⟩ : ∃ y_ : List (S24), y_ = (x137012_2 ++ [(⟨t155, t156⟩ : S24)]) := ⟨_, rfl⟩
                replace H : (letter_readAsk.l1 k2 t152 (wrap64 (x43_2 + 1)) t157 t158 (wrap64 (t109)) t112 t113 t116 t117 t120 t121 t124 t127 (wrap64 (t130)) ((t133) % 256) x137011_1 y159) = some (r1, r2, r3, r4, r5, r6, r7, r8, r9, r10, r11, r12, r13, r14, r15) := by first | (rw [hy159]; with_reducible exact H) | (have H2_ := (Option.bind_some _ _).symm.trans H; rw [hy159]; with_reducible exact H2_) | (have H2_ := (Option.bind_some _ _).symm.trans H; with_reducible exact H2_) | with_reducible exact H | (rw [hy159]; exact H) | exact H
                have Ny159 := Aside0.mk hy159
                clear hy159
                have H' := Aside0.mk H
                clear H
                try go_wp2
                have n0_ := Aside0.mk (Kd.R_drew HO_137011.out)
                have n1_ := Aside0.mk (Kd.R_drew HO_137012.out)
                have n2_ := Aside0.mk (blk_drew BK108.out)
                have n3_ := Aside0.mk (blk_drew BK136.out)
                have n4_ := Aside0.mk (IsS92.drew HI0.out)
                have n5_ := Aside0.mk (keep_drew HK.out)
                have n6_ := Aside0.mk (below_drew1 HB.out)
                clear HO_137011
                clear HO_137012
                clear BK108
                clear BK136
                clear HI0
                clear HK
                clear HB
                have HO_137011 := n0_
                have HO_137012 := n1_
                have BK108 := n2_
                have BK136 := n3_
                have HI0 := n4_
                have HK := n5_
                have HB := n6_
                clear n0_ n1_ n2_ n3_ n4_ n5_ n6_
                refine start_ (n := 8) (S := fun w' => w'.cell? ⟨gb136, 0, none⟩ = some (.int .i64 (wrap64 (t109))) ∧ w'.cell? ⟨gb136, 1, none⟩ = some (.int .u32 t112) ∧ w'.cell? ⟨gb136, 2, none⟩ = some (.int .u32 t113) ∧ w'.cell? ⟨gb136, 3, none⟩ = some (.int .u64 t116) ∧ w'.cell? ⟨gb136, 4, none⟩ = some (.int .u32 t117) ∧ w'.cell? ⟨gb136, 5, none⟩ = some (.int .u64 t120) ∧ w'.cell? ⟨gb136, 6, none⟩ = some (.int .u32 t121) ∧ w'.cell? ⟨gb136, 7, none⟩ = some (.string t124) ∧ w'.cell? ⟨gb136, 8, none⟩ = some (.string t127) ∧ w'.cell? ⟨gb136, 9, none⟩ = some (.int .i64 (wrap64 (t130))) ∧ w'.cell? ⟨gb136, 10, none⟩ = some (.int .u8 ((t133) % 256)) ∧ w'.cell? ⟨gb136, 11, none⟩ = some (u137011) ∧ w'.cell? ⟨gb136, 12, none⟩ = some (u137012)) (ds := [7]) #[false, false, false, false, false, false, false, false] (by kernel_rfl) rfl rfl ⟨(blk_cell BK136.out 0).trans rfl, (blk_cell BK136.out 1).trans rfl, (blk_cell BK136.out 2).trans rfl, (blk_cell BK136.out 3).trans rfl, (blk_cell BK136.out 4).trans rfl, (blk_cell BK136.out 5).trans rfl, (blk_cell BK136.out 6).trans rfl, (blk_cell BK136.out 7).trans rfl, (blk_cell BK136.out 8).trans rfl, (blk_cell BK136.out 9).trans rfl, (blk_cell BK136.out 10).trans rfl, (blk_cell BK136.out 11).trans rfl, (blk_cell BK136.out 12).trans rfl⟩ (fun hHeld => ?_); refine with_tabW letter_readAsk.tab8 letter_readAsk.bits8 (fun HT_ HW_ => ?_)
                generalize wr.drew = w42 at HO_137011 HO_137012 BK108 BK136 HI0 HK HB hHeld ⊢
                refine pure_ (i := 0) (N := some 45) (v := ?_) (a' := ?_) #[true, false, false, false, false, false, false, false] rfl rfl (any_of HT_.out (by kernel_rfl)) (fun _ _ _ h => h) (Or.inl ⟨by rfl, ?_⟩) ?_ ?_
                rotate_left
                · intro w'
                  go_simp
                  with_reducible rfl
                rotate_left
                · simp only [Act.put, List.setIfInBounds_toArray, List.set_cons_zero, List.set_cons_succ, i64_w, i32_w]
                  rfl
                refine pure_ (i := 2) (N := some 47) (v := ?_) (a' := ?_) #[true, false, true, false, false, false, false, false] rfl rfl (any_of HT_.out (by kernel_rfl)) (fun _ _ _ h => h) (Or.inl ⟨by rfl, ?_⟩) ?_ ?_
                rotate_left
                · intro w'
                  go_simp
                  with_reducible rfl
                rotate_left
                · simp only [Act.put, List.setIfInBounds_toArray, List.set_cons_zero, List.set_cons_succ, i64_w, i32_w]
                  rfl
                refine take_ (i := 1) (N := some 46) (v := ?_) (a' := ?_) #[true, true, true, false, false, false, false, false] rfl rfl (take_ofW HT_.out HW_.out (by kernel_rfl)) (fun _ _ _ h => h) (Or.inl ⟨by rfl, ?_⟩) hHeld ?_ ?_
                rotate_left
                · rintro w' ⟨s0, s1, s2, s3, s4, s5, s6, s7, s8, s9, s10, s11, s12⟩
                  go_simp
                  with_reducible rfl
                rotate_left
                · simp only [Act.put, List.setIfInBounds_toArray, List.set_cons_zero, List.set_cons_succ, i64_w, i32_w]
                  rfl
                refine one_ (i := 3) (N := some 48) #[true, true, true, true, false, false, false, false] rfl rfl (one_of HT_.out (by kernel_rfl)) (by decide) (fun K hK => ?_)
                refine goes_ Try.func54 (by kernel_rfl) rfl #[.pointer (some ⟨g, 0, none⟩)] (by rfl) rfl rfl (by (try simp only [List.map_toArray, List.map_cons, List.map_nil]); first | done | rfl | (simp only [List.length_drop, List.length_take]; rfl)) ?_
                with_reducible refine (letter_txn.calls g x1000_2 x1001_2 t155 t156 t157 t158 w0 _ ?side1 ?side2 A40.out).mono ?_
                (case side1 => repeat (first | (with_reducible first | exact HI0.out | apply IsS92.alloc | apply IsS92.drewN | apply IsS92.drew | apply IsS92.set_0 | apply IsS92.set_1 | refine IsS92.far ?_ NB0_108.out _ | refine IsS92.far ?_ NB0_136.out _) | exact HI0.out))
                (case side2 => repeat (first | (with_reducible first | exact HB.out | apply below_alloc | apply pw_below_drewN | apply below_drew1 | refine below_set ?_ (IsS92.ge HI0.out) | refine below_set ?_ GE108.out | refine below_set ?_ GE136.out) | exact HB.out))
                rintro e w43 ⟨rfl, hi, hb, hk⟩
                refine ⟨_, rfl, ?_⟩
                have n0_ := Aside0.mk (Kd.R_mono (Kd.R_keep (IsS92.apart (show IsS92 w0 _ g x1000_2 x1001_2 from by repeat (first | (with_reducible first | exact HI0.out | apply IsS92.alloc | apply IsS92.drewN | apply IsS92.drew | apply IsS92.set_0 | apply IsS92.set_1 | refine IsS92.far ?_ NB0_108.out _ | refine IsS92.far ?_ NB0_136.out _) | exact HI0.out)) (by (with_reducible repeat (first | apply Kd.R_alloc | apply Kd.R_drewN | apply Kd.R_drew)); exact HO_137011.out) (by decide)) hk (fun _ h => h.2)) (fun _ h => h.1))
                have n1_ := Aside0.mk (Kd.R_mono (Kd.R_keep (IsS92.apart (show IsS92 w0 _ g x1000_2 x1001_2 from by repeat (first | (with_reducible first | exact HI0.out | apply IsS92.alloc | apply IsS92.drewN | apply IsS92.drew | apply IsS92.set_0 | apply IsS92.set_1 | refine IsS92.far ?_ NB0_108.out _ | refine IsS92.far ?_ NB0_136.out _) | exact HI0.out)) (by (with_reducible repeat (first | apply Kd.R_alloc | apply Kd.R_drewN | apply Kd.R_drew)); exact HO_137012.out) (by decide)) hk (fun _ h => h.2)) (fun _ h => h.1))
                have n2_ := Aside0.mk (KeepBut.blk hk (g' := gb108) (o := .cells #[.int .i64 0, .int .u32 0, .int .u32 0, .int .u64 0, .int .u32 0, .int .u64 0, .int .u32 0, .string (⟨#[]⟩ : ByteArray), .string (⟨#[]⟩ : ByteArray), .int .i64 0, .int .u8 0, .slice none 0 0, .slice none 0 0] 31 (0, 0)) (by (with_reducible repeat (first | refine blk_drewN ?_ _ | refine blk_drew ?_ | refine blk_alloc ?_ _)); exact BK108.out) NB108_0.out (by simp))
                have n3_ := Aside0.mk (KeepBut.blk hk (g' := gb136) (o := .cells #[.int .i64 (wrap64 (t109)), .int .u32 t112, .int .u32 t113, .int .u64 t116, .int .u32 t117, .int .u64 t120, .int .u32 t121, .string t124, .string t127, .int .i64 (wrap64 (t130)), .int .u8 ((t133) % 256), u137011, u137012] 31 (0, 0)) (by (with_reducible repeat (first | refine blk_drewN ?_ _ | refine blk_drew ?_ | refine blk_alloc ?_ _)); exact BK136.out) NB136_0.out (by simp))
                have n4_ := Aside0.mk (KeepBut.trans (by repeat (first | (with_reducible first | exact HK.out | apply KeepBut.set_ | apply keep_drewN | apply keep_drew | apply keep_alloc | refine keep_far ?_ GW108.out _ | refine keep_far ?_ GW136.out _) | exact HK.out)) hk (.inl rfl))
                have n5_ := Aside0.mk (hb)
                have n6_ := Aside0.mk (hi)
                clear HO_137011
                clear HO_137012
                clear BK108
                clear BK136
                clear HK
                clear HB
                clear HI0
                have HO_137011 := n0_
                have HO_137012 := n1_
                have BK108 := n2_
                have BK136 := n3_
                have HK := n4_
                have HB := n5_
                have HI0 := n6_
                clear n0_ n1_ n2_ n3_ n4_ n5_ n6_
                (try clear hb)
                (try clear hb2)
                (try clear hk)
                (try clear hi)
                refine hK.out _ _ ⟨(blk_cell BK136.out 0).trans rfl, (blk_cell BK136.out 1).trans rfl, (blk_cell BK136.out 2).trans rfl, (blk_cell BK136.out 3).trans rfl, (blk_cell BK136.out 4).trans rfl, (blk_cell BK136.out 5).trans rfl, (blk_cell BK136.out 6).trans rfl, (blk_cell BK136.out 7).trans rfl, (blk_cell BK136.out 8).trans rfl, (blk_cell BK136.out 9).trans rfl, (blk_cell BK136.out 10).trans rfl, (blk_cell BK136.out 11).trans rfl, (blk_cell BK136.out 12).trans rfl⟩ (fun hHeld => ?_)
                clear hK K
                refine norm_ (a' := ?_) ?_ ?_
                rotate_left
                · show Act.put _ (some 48) _ = _
                  simp only [Act.put, List.setIfInBounds_toArray, List.set_cons_zero, List.set_cons_succ, i64_w, i32_w]
                  rfl
                refine one_ (i := 4) (N := some 49) #[true, true, true, true, true, false, false, false] rfl rfl (one_of HT_.out (by kernel_rfl)) (by decide) (fun K hK => ?_)
                refine value_ (w1 := ?_) (v := ?_) (by rfl) rfl ?_ ?_
                rotate_left 2
                · go_simp
                  constructor
                  · rfl
                  · rfl
                refine hK.out _ _ ⟨(blk_cell (blk_alloc BK136.out _) 0).trans rfl, (blk_cell (blk_alloc BK136.out _) 1).trans rfl, (blk_cell (blk_alloc BK136.out _) 2).trans rfl, (blk_cell (blk_alloc BK136.out _) 3).trans rfl, (blk_cell (blk_alloc BK136.out _) 4).trans rfl, (blk_cell (blk_alloc BK136.out _) 5).trans rfl, (blk_cell (blk_alloc BK136.out _) 6).trans rfl, (blk_cell (blk_alloc BK136.out _) 7).trans rfl, (blk_cell (blk_alloc BK136.out _) 8).trans rfl, (blk_cell (blk_alloc BK136.out _) 9).trans rfl, (blk_cell (blk_alloc BK136.out _) 10).trans rfl, (blk_cell (blk_alloc BK136.out _) 11).trans rfl, (blk_cell (blk_alloc BK136.out _) 12).trans rfl⟩ (fun hHeld => ?_)
                clear hK K
                refine norm_ (a' := ?_) ?_ ?_
                rotate_left
                · show Act.put _ (some 49) _ = _
                  simp only [Act.put, List.setIfInBounds_toArray, List.set_cons_zero, List.set_cons_succ, i64_w, i32_w]
                  rfl
                refine one_ (i := 5) (N := some 50) #[true, true, true, true, true, true, false, false] rfl rfl (one_of HT_.out (by kernel_rfl)) (by decide) (fun K hK => ?_)
                refine Kd.R_append_step k24 w.heap.size (by rfl) (.tmp 46) (.tmp 49) 29 24 (.agg #[(.int .u32 0), (.int .u32 0)]) 8 rfl Try.underlying29 info24 rfl (by decide) (by omega) u137012 x137012_2 (⟨t155, t156⟩ : S24) [.int .u32 t155, .int .u32 t156] (fun _ => True) (fun _ => False) rfl rfl ?aP (fun _ hk => hk.elim) ?aF ?aO (Below.refl _ _) ?aS ?aL ?_
                (case aP => exact k24_mkM _ _ _ (⟨t155, t156⟩ : S24))
                (case aF => exact (fun _ _ => trivial))
                (case aO => exact (by (with_reducible repeat (first | apply Kd.R_alloc | apply Kd.R_drewN | apply Kd.R_drew)); exact HO_137012.out))
                (case aS => exact (keep_size (w := w) (g := g) (row := none) (by repeat (first | (with_reducible first | exact HK.out | apply KeepBut.set_ | apply keep_drewN | apply keep_drew | apply keep_alloc | refine keep_far ?_ GW108.out _ | refine keep_far ?_ GW136.out _) | exact HK.out))))
                (case aL => have := LMc41.out; omega)
                intro v160 w44 ho hb hg hat
                rw [← Ny159.out] at ho
                have n0_ := Aside0.mk (Kd.R_over' (by (with_reducible repeat (first | apply Kd.R_alloc | apply Kd.R_drewN | apply Kd.R_drew)); exact HO_137011.out) (Kd.R_typed (by (with_reducible repeat (first | apply Kd.R_alloc | apply Kd.R_drewN | apply Kd.R_drew)); exact HO_137012.out)) (by decide) hg)
                have n1_ := Aside0.mk (blk_grown (g := gb108) (o := .cells #[.int .i64 0, .int .u32 0, .int .u32 0, .int .u64 0, .int .u32 0, .int .u64 0, .int .u32 0, .string (⟨#[]⟩ : ByteArray), .string (⟨#[]⟩ : ByteArray), .int .i64 0, .int .u8 0, .slice none 0 0, .slice none 0 0] 31 (0, 0)) (by (with_reducible repeat (first | refine blk_drewN ?_ _ | refine blk_drew ?_ | refine blk_alloc ?_ _)); exact BK108.out) hg (Kd.R_ne HO_137012.out BK108.out (by decide)))
                have n2_ := Aside0.mk (blk_grown (g := gb136) (o := .cells #[.int .i64 (wrap64 (t109)), .int .u32 t112, .int .u32 t113, .int .u64 t116, .int .u32 t117, .int .u64 t120, .int .u32 t121, .string t124, .string t127, .int .i64 (wrap64 (t130)), .int .u8 ((t133) % 256), u137011, u137012] 31 (0, 0)) (by (with_reducible repeat (first | refine blk_drewN ?_ _ | refine blk_drew ?_ | refine blk_alloc ?_ _)); exact BK136.out) hg (Kd.R_ne HO_137012.out BK136.out (by decide)))
                have n3_ := Aside0.mk (IsS92.grown (by repeat (first | (with_reducible first | exact HI0.out | apply IsS92.alloc | apply IsS92.drewN | apply IsS92.drew | apply IsS92.set_0 | apply IsS92.set_1 | refine IsS92.far ?_ NB0_108.out _ | refine IsS92.far ?_ NB0_136.out _) | exact HI0.out)) hg (IsS92.own_ne HI0.out HO_137012.out (by decide)))
                have n4_ := Aside0.mk (below_weaken (by repeat (first | (with_reducible first | exact HB.out | apply below_alloc | apply pw_below_drewN | apply below_drew1 | refine below_set ?_ (IsS92.ge HI0.out) | refine below_set ?_ GE108.out | refine below_set ?_ GE136.out) | exact HB.out)) HL.out hb)
                have n5_ := Aside0.mk (KeepBut.trans (by repeat (first | (with_reducible first | exact HK.out | apply KeepBut.set_ | apply keep_drewN | apply keep_drew | apply keep_alloc | refine keep_far ?_ GW108.out _ | refine keep_far ?_ GW136.out _) | exact HK.out)) (KeepBut.of_grown hg g) (Kd.R_base2 HO_137012.out))
                have n6_ := Aside0.mk (ho)
                clear HO_137011
                clear BK108
                clear BK136
                clear HI0
                clear HB
                clear HK
                clear HO_137012
                have HO_137011 := n0_
                have BK108 := n1_
                have BK136 := n2_
                have HI0 := n3_
                have HB := n4_
                have HK := n5_
                have HO161 := n6_
                clear n0_ n1_ n2_ n3_ n4_ n5_ n6_
                clear ho hb hg hat
                obtain ⟨Ao45, co45, eo45⟩ := Kd.R_slice HO161.out
                (first | subst eo45 | (injection eo45 with f1_ f2_ f3_; have f4_ := f1_.symm; have f5_ := f3_.symm; clear f1_ f2_ f3_; subst f4_; subst f5_))
                refine hK.out _ _ ⟨(blk_cell BK136.out 0).trans rfl, (blk_cell BK136.out 1).trans rfl, (blk_cell BK136.out 2).trans rfl, (blk_cell BK136.out 3).trans rfl, (blk_cell BK136.out 4).trans rfl, (blk_cell BK136.out 5).trans rfl, (blk_cell BK136.out 6).trans rfl, (blk_cell BK136.out 7).trans rfl, (blk_cell BK136.out 8).trans rfl, (blk_cell BK136.out 9).trans rfl, (blk_cell BK136.out 10).trans rfl, (blk_cell BK136.out 11).trans rfl, (blk_cell BK136.out 12).trans rfl⟩ (fun hHeld => ?_)
                clear hK K
                refine norm_ (a' := ?_) ?_ ?_
                rotate_left
                · show Act.put _ (some 50) _ = _
                  simp only [Act.put, List.setIfInBounds_toArray, List.set_cons_zero, List.set_cons_succ, i64_w, i32_w]
                  rfl
                refine pure_ (i := 6) (N := some 51) (v := ?_) (a' := ?_) #[true, true, true, true, true, true, true, false] rfl rfl (any_of HT_.out (by kernel_rfl)) (fun _ _ _ h => h) (Or.inl ⟨by rfl, ?_⟩) ?_ ?_
                rotate_left
                · intro w'
                  go_simp
                  with_reducible rfl
                rotate_left
                · simp only [Act.put, List.setIfInBounds_toArray, List.set_cons_zero, List.set_cons_succ, i64_w, i32_w]
                  rfl
                refine last_ (i := 7) (N := none) #[true, true, true, true, true, true, true, true] rfl rfl (one_of HT_.out (by kernel_rfl)) (by decide) (fun K hK => ?_)
                have hs46 : w44.cell? ⟨gb136, 12, none⟩ = some (u137012) := (blk_cell BK136.out 12).trans rfl
                have hfs46 := blk_frozen BK136.out 12
                have hns46_0 := NB108_136.out
                have hms46_0 := NB136_108.out
                refine skip_ (w1 := ?_) (by rfl) rfl ?_ ?_
                rotate_left
                · go_simp
                  rfl
                refine hK.out _ _ ?_
                clear hK K
                refine done_ (done_of HT_.out (by kernel_rfl)) ?_
                try go_wp2
                go_roundg k2
                case measure => have := HK1.out; have := HK2.out; omega
                case rel => exact ⟨(wrap64 (x43_2 + 1)), (t157), (t158), (y159), (.slice Ao45 y159.length co45), (by first | rfl | (simp; done) | (simp [*]; done)), H', ⟨by have := HK1.out; have := HK2.out; omega⟩, ⟨by (with_reducible repeat (first | apply Kd.R_alloc | apply Kd.R_drewN | apply Kd.R_drew)); exact Kd.R_mono (Kd.R_far (p := ⟨gb136, 12, none⟩) (Kd.R_types HO_137011.out BK136.out (by decide)) (fun _ hk => hk.2) (.slice Ao45 y159.length co45)) (fun _ hk => trivial)⟩, ⟨by (with_reducible repeat (first | apply Kd.R_alloc | apply Kd.R_drewN | apply Kd.R_drew)); exact Kd.R_mono (Kd.R_far (p := ⟨gb136, 12, none⟩) (Kd.R_types HO161.out BK136.out (by decide)) (fun _ hk => hk.2) (.slice Ao45 y159.length co45)) (fun _ hk => trivial)⟩, ⟨by (with_reducible repeat (first | refine blk_drewN ?_ _ | refine blk_drew ?_ | refine blk_alloc ?_ _)); refine blk_far ?_ NB108_136.out _; (with_reducible repeat (first | refine blk_drewN ?_ _ | refine blk_drew ?_ | refine blk_alloc ?_ _)); exact BK108.out⟩, ⟨by (with_reducible repeat (first | refine blk_drewN ?_ _ | refine blk_drew ?_ | refine blk_alloc ?_ _)); refine blk_put (cs := #[.int .i64 (wrap64 (t109)), .int .u32 t112, .int .u32 t113, .int .u64 t116, .int .u32 t117, .int .u64 t120, .int .u32 t121, .string t124, .string t127, .int .i64 (wrap64 (t130)), .int .u8 ((t133) % 256), u137011, u137012]) ?_ 12 _ rfl; (with_reducible repeat (first | refine blk_drewN ?_ _ | refine blk_drew ?_ | refine blk_alloc ?_ _)); exact BK136.out⟩, ⟨by repeat (first | (with_reducible first | exact HI0.out | apply IsS92.alloc | apply IsS92.drewN | apply IsS92.drew | apply IsS92.set_0 | apply IsS92.set_1 | refine IsS92.far ?_ NB0_108.out _ | refine IsS92.far ?_ NB0_136.out _) | exact HI0.out)⟩, ⟨by repeat (first | (with_reducible first | exact HK.out | apply KeepBut.set_ | apply keep_drewN | apply keep_drew | apply keep_alloc | refine keep_far ?_ GW108.out _ | refine keep_far ?_ GW136.out _) | exact HK.out)⟩, ⟨by repeat (first | (with_reducible first | exact HB.out | apply below_alloc | apply pw_below_drewN | apply below_drew1 | refine below_set ?_ (IsS92.ge HI0.out) | refine below_set ?_ GE108.out | refine below_set ?_ GE136.out) | exact HB.out)⟩⟩
              · rw [if_neg c41] at H
                exact absurd H (by simp)
            · rw [if_neg c39] at H
              have c39b0 : decide (x43_2 < t152) = false := decide_eq_false c39
              clear c39
              simp only [Option.some.injEq, Prod.mk.injEq] at H
              obtain ⟨rfl, rfl, rfl, rfl, rfl, rfl, rfl, rfl, rfl, rfl, rfl, rfl, rfl, rfl, rfl⟩ := H
              have hnb47 := NB136_108.out
              have hnc47 := NB108_136.out
              have hnb48 := NB136_0.out
              have hnc48 := NB0_136.out
              have hcz49_0 : wr.cell? ⟨gb136, 0, none⟩ = some (.int .i64 (wrap64 (t109))) := (blk_cell BK136.out 0).trans rfl
              have hcz49_1 : wr.cell? ⟨gb136, 1, none⟩ = some (.int .u32 t112) := (blk_cell BK136.out 1).trans rfl
              have hcz49_2 : wr.cell? ⟨gb136, 2, none⟩ = some (.int .u32 t113) := (blk_cell BK136.out 2).trans rfl
              have hcz49_3 : wr.cell? ⟨gb136, 3, none⟩ = some (.int .u64 t116) := (blk_cell BK136.out 3).trans rfl
              have hcz49_4 : wr.cell? ⟨gb136, 4, none⟩ = some (.int .u32 t117) := (blk_cell BK136.out 4).trans rfl
              have hcz49_5 : wr.cell? ⟨gb136, 5, none⟩ = some (.int .u64 t120) := (blk_cell BK136.out 5).trans rfl
              have hcz49_6 : wr.cell? ⟨gb136, 6, none⟩ = some (.int .u32 t121) := (blk_cell BK136.out 6).trans rfl
              have hcz49_7 : wr.cell? ⟨gb136, 7, none⟩ = some (.string t124) := (blk_cell BK136.out 7).trans rfl
              have hcz49_8 : wr.cell? ⟨gb136, 8, none⟩ = some (.string t127) := (blk_cell BK136.out 8).trans rfl
              have hcz49_9 : wr.cell? ⟨gb136, 9, none⟩ = some (.int .i64 (wrap64 (t130))) := (blk_cell BK136.out 9).trans rfl
              have hcz49_10 : wr.cell? ⟨gb136, 10, none⟩ = some (.int .u8 ((t133) % 256)) := (blk_cell BK136.out 10).trans rfl
              have hcz49_11 : wr.cell? ⟨gb136, 11, none⟩ = some (u137011) := (blk_cell BK136.out 11).trans rfl
              have hcz49_12 : wr.cell? ⟨gb136, 12, none⟩ = some (u137012) := (blk_cell BK136.out 12).trans rfl
              have hfz49_0 := blk_frozen BK136.out 0
              have hfz49_1 := blk_frozen BK136.out 1
              have hfz49_2 := blk_frozen BK136.out 2
              have hfz49_3 := blk_frozen BK136.out 3
              have hfz49_4 := blk_frozen BK136.out 4
              have hfz49_5 := blk_frozen BK136.out 5
              have hfz49_6 := blk_frozen BK136.out 6
              have hfz49_7 := blk_frozen BK136.out 7
              have hfz49_8 := blk_frozen BK136.out 8
              have hfz49_9 := blk_frozen BK136.out 9
              have hfz49_10 := blk_frozen BK136.out 10
              have hfz49_11 := blk_frozen BK136.out 11
              have hfz49_12 := blk_frozen BK136.out 12
              have hnb50 := NB108_0.out
              have hnc50 := NB0_108.out
              have hcz51_0 : wr.cell? ⟨gb108, 0, none⟩ = some (.int .i64 0) := (blk_cell BK108.out 0).trans rfl
              have hcz51_1 : wr.cell? ⟨gb108, 1, none⟩ = some (.int .u32 0) := (blk_cell BK108.out 1).trans rfl
              have hcz51_2 : wr.cell? ⟨gb108, 2, none⟩ = some (.int .u32 0) := (blk_cell BK108.out 2).trans rfl
              have hcz51_3 : wr.cell? ⟨gb108, 3, none⟩ = some (.int .u64 0) := (blk_cell BK108.out 3).trans rfl
              have hcz51_4 : wr.cell? ⟨gb108, 4, none⟩ = some (.int .u32 0) := (blk_cell BK108.out 4).trans rfl
              have hcz51_5 : wr.cell? ⟨gb108, 5, none⟩ = some (.int .u64 0) := (blk_cell BK108.out 5).trans rfl
              have hcz51_6 : wr.cell? ⟨gb108, 6, none⟩ = some (.int .u32 0) := (blk_cell BK108.out 6).trans rfl
              have hcz51_7 : wr.cell? ⟨gb108, 7, none⟩ = some (.string (⟨#[]⟩ : ByteArray)) := (blk_cell BK108.out 7).trans rfl
              have hcz51_8 : wr.cell? ⟨gb108, 8, none⟩ = some (.string (⟨#[]⟩ : ByteArray)) := (blk_cell BK108.out 8).trans rfl
              have hcz51_9 : wr.cell? ⟨gb108, 9, none⟩ = some (.int .i64 0) := (blk_cell BK108.out 9).trans rfl
              have hcz51_10 : wr.cell? ⟨gb108, 10, none⟩ = some (.int .u8 0) := (blk_cell BK108.out 10).trans rfl
              have hcz51_11 : wr.cell? ⟨gb108, 11, none⟩ = some (.slice none 0 0) := (blk_cell BK108.out 11).trans rfl
              have hcz51_12 : wr.cell? ⟨gb108, 12, none⟩ = some (.slice none 0 0) := (blk_cell BK108.out 12).trans rfl
              have hfz51_0 := blk_frozen BK108.out 0
              have hfz51_1 := blk_frozen BK108.out 1
              have hfz51_2 := blk_frozen BK108.out 2
              have hfz51_3 := blk_frozen BK108.out 3
              have hfz51_4 := blk_frozen BK108.out 4
              have hfz51_5 := blk_frozen BK108.out 5
              have hfz51_6 := blk_frozen BK108.out 6
              have hfz51_7 := blk_frozen BK108.out 7
              have hfz51_8 := blk_frozen BK108.out 8
              have hfz51_9 := blk_frozen BK108.out 9
              have hfz51_10 := blk_frozen BK108.out 10
              have hfz51_11 := blk_frozen BK108.out 11
              have hfz51_12 := blk_frozen BK108.out 12
              obtain ⟨Ao52, co52, eo52⟩ := Kd.R_slice HO_137011.out
              subst eo52
              obtain ⟨Ao53, co53, eo53⟩ := Kd.R_slice HO_137012.out
              subst eo53
              go_wp2
              refine bodyPost_ret (results_cell_row rfl _ _ gb108 31 #[.int .i64 (wrap64 (t109)), .int .u32 t112, .int .u32 t113, .int .u64 t116, .int .u32 t117, .int .u64 t120, .int .u32 t121, .string t124, .string t127, .int .i64 (wrap64 (t130)), .int .u8 ((t133) % 256), .slice Ao52 x137011_1.length co52, .slice Ao53 x137012_2.length co53] (0, 0) _ rfl (by (with_reducible repeat (first | refine blk_drewN ?_ _ | refine blk_drew ?_ | refine blk_alloc ?_ _)); refine blk_put (cs := #[.int .i64 (wrap64 (t109)), .int .u32 t112, .int .u32 t113, .int .u64 t116, .int .u32 t117, .int .u64 t120, .int .u32 t121, .string t124, .string t127, .int .i64 (wrap64 (t130)), .int .u8 ((t133) % 256), .slice Ao52 x137011_1.length co52, .slice none 0 0]) ?_ 12 _ rfl; (with_reducible repeat (first | refine blk_drewN ?_ _ | refine blk_drew ?_ | refine blk_alloc ?_ _)); refine blk_put (cs := #[.int .i64 (wrap64 (t109)), .int .u32 t112, .int .u32 t113, .int .u64 t116, .int .u32 t117, .int .u64 t120, .int .u32 t121, .string t124, .string t127, .int .i64 (wrap64 (t130)), .int .u8 ((t133) % 256), .slice none 0 0, .slice none 0 0]) ?_ 11 _ rfl; (with_reducible repeat (first | refine blk_drewN ?_ _ | refine blk_drew ?_ | refine blk_alloc ?_ _)); refine blk_put (cs := #[.int .i64 (wrap64 (t109)), .int .u32 t112, .int .u32 t113, .int .u64 t116, .int .u32 t117, .int .u64 t120, .int .u32 t121, .string t124, .string t127, .int .i64 (wrap64 (t130)), .int .u8 0, .slice none 0 0, .slice none 0 0]) ?_ 10 _ rfl; (with_reducible repeat (first | refine blk_drewN ?_ _ | refine blk_drew ?_ | refine blk_alloc ?_ _)); refine blk_put (cs := #[.int .i64 (wrap64 (t109)), .int .u32 t112, .int .u32 t113, .int .u64 t116, .int .u32 t117, .int .u64 t120, .int .u32 t121, .string t124, .string t127, .int .i64 0, .int .u8 0, .slice none 0 0, .slice none 0 0]) ?_ 9 _ rfl; (with_reducible repeat (first | refine blk_drewN ?_ _ | refine blk_drew ?_ | refine blk_alloc ?_ _)); refine blk_put (cs := #[.int .i64 (wrap64 (t109)), .int .u32 t112, .int .u32 t113, .int .u64 t116, .int .u32 t117, .int .u64 t120, .int .u32 t121, .string t124, .string (⟨#[]⟩ : ByteArray), .int .i64 0, .int .u8 0, .slice none 0 0, .slice none 0 0]) ?_ 8 _ rfl; (with_reducible repeat (first | refine blk_drewN ?_ _ | refine blk_drew ?_ | refine blk_alloc ?_ _)); refine blk_put (cs := #[.int .i64 (wrap64 (t109)), .int .u32 t112, .int .u32 t113, .int .u64 t116, .int .u32 t117, .int .u64 t120, .int .u32 t121, .string (⟨#[]⟩ : ByteArray), .string (⟨#[]⟩ : ByteArray), .int .i64 0, .int .u8 0, .slice none 0 0, .slice none 0 0]) ?_ 7 _ rfl; (with_reducible repeat (first | refine blk_drewN ?_ _ | refine blk_drew ?_ | refine blk_alloc ?_ _)); refine blk_put (cs := #[.int .i64 (wrap64 (t109)), .int .u32 t112, .int .u32 t113, .int .u64 t116, .int .u32 t117, .int .u64 t120, .int .u32 0, .string (⟨#[]⟩ : ByteArray), .string (⟨#[]⟩ : ByteArray), .int .i64 0, .int .u8 0, .slice none 0 0, .slice none 0 0]) ?_ 6 _ rfl; (with_reducible repeat (first | refine blk_drewN ?_ _ | refine blk_drew ?_ | refine blk_alloc ?_ _)); refine blk_put (cs := #[.int .i64 (wrap64 (t109)), .int .u32 t112, .int .u32 t113, .int .u64 t116, .int .u32 t117, .int .u64 0, .int .u32 0, .string (⟨#[]⟩ : ByteArray), .string (⟨#[]⟩ : ByteArray), .int .i64 0, .int .u8 0, .slice none 0 0, .slice none 0 0]) ?_ 5 _ rfl; (with_reducible repeat (first | refine blk_drewN ?_ _ | refine blk_drew ?_ | refine blk_alloc ?_ _)); refine blk_put (cs := #[.int .i64 (wrap64 (t109)), .int .u32 t112, .int .u32 t113, .int .u64 t116, .int .u32 0, .int .u64 0, .int .u32 0, .string (⟨#[]⟩ : ByteArray), .string (⟨#[]⟩ : ByteArray), .int .i64 0, .int .u8 0, .slice none 0 0, .slice none 0 0]) ?_ 4 _ rfl; (with_reducible repeat (first | refine blk_drewN ?_ _ | refine blk_drew ?_ | refine blk_alloc ?_ _)); refine blk_put (cs := #[.int .i64 (wrap64 (t109)), .int .u32 t112, .int .u32 t113, .int .u64 0, .int .u32 0, .int .u64 0, .int .u32 0, .string (⟨#[]⟩ : ByteArray), .string (⟨#[]⟩ : ByteArray), .int .i64 0, .int .u8 0, .slice none 0 0, .slice none 0 0]) ?_ 3 _ rfl; (with_reducible repeat (first | refine blk_drewN ?_ _ | refine blk_drew ?_ | refine blk_alloc ?_ _)); refine blk_put (cs := #[.int .i64 (wrap64 (t109)), .int .u32 t112, .int .u32 0, .int .u64 0, .int .u32 0, .int .u64 0, .int .u32 0, .string (⟨#[]⟩ : ByteArray), .string (⟨#[]⟩ : ByteArray), .int .i64 0, .int .u8 0, .slice none 0 0, .slice none 0 0]) ?_ 2 _ rfl; (with_reducible repeat (first | refine blk_drewN ?_ _ | refine blk_drew ?_ | refine blk_alloc ?_ _)); refine blk_put (cs := #[.int .i64 (wrap64 (t109)), .int .u32 0, .int .u32 0, .int .u64 0, .int .u32 0, .int .u64 0, .int .u32 0, .string (⟨#[]⟩ : ByteArray), .string (⟨#[]⟩ : ByteArray), .int .i64 0, .int .u8 0, .slice none 0 0, .slice none 0 0]) ?_ 1 _ rfl; (with_reducible repeat (first | refine blk_drewN ?_ _ | refine blk_drew ?_ | refine blk_alloc ?_ _)); refine blk_put (cs := #[.int .i64 0, .int .u32 0, .int .u32 0, .int .u64 0, .int .u32 0, .int .u64 0, .int .u32 0, .string (⟨#[]⟩ : ByteArray), .string (⟨#[]⟩ : ByteArray), .int .i64 0, .int .u8 0, .slice none 0 0, .slice none 0 0]) ?_ 0 _ rfl; (with_reducible repeat (first | refine blk_drewN ?_ _ | refine blk_drew ?_ | refine blk_alloc ?_ _)); exact BK108.out) Try.underlying31 rfl (by kernel_rfl)) rfl ?_
              exact ⟨_, _, by first | rfl | (simp [errW_none, errW_some] <;> rfl) | (simp [*, errW_none, errW_some] <;> rfl), by (with_reducible repeat (first | apply Kd.R_alloc | apply Kd.R_drewN | apply Kd.R_drew)); exact Kd.R_mono (Kd.R_far (p := ⟨gb108, 12, none⟩) (Kd.R_far (p := ⟨gb108, 11, none⟩) (Kd.R_far (p := ⟨gb108, 10, none⟩) (Kd.R_far (p := ⟨gb108, 9, none⟩) (Kd.R_far (p := ⟨gb108, 8, none⟩) (Kd.R_far (p := ⟨gb108, 7, none⟩) (Kd.R_far (p := ⟨gb108, 6, none⟩) (Kd.R_far (p := ⟨gb108, 5, none⟩) (Kd.R_far (p := ⟨gb108, 4, none⟩) (Kd.R_far (p := ⟨gb108, 3, none⟩) (Kd.R_far (p := ⟨gb108, 2, none⟩) (Kd.R_far (p := ⟨gb108, 1, none⟩) (Kd.R_far (p := ⟨gb108, 0, none⟩) (Kd.R_types HO_137011.out BK108.out (by decide)) (fun _ hk => hk.2) (.int .i64 (wrap64 (t109)))) (fun _ hk => hk.2) (.int .u32 t112)) (fun _ hk => hk.2) (.int .u32 t113)) (fun _ hk => hk.2) (.int .u64 t116)) (fun _ hk => hk.2) (.int .u32 t117)) (fun _ hk => hk.2) (.int .u64 t120)) (fun _ hk => hk.2) (.int .u32 t121)) (fun _ hk => hk.2) (.string t124)) (fun _ hk => hk.2) (.string t127)) (fun _ hk => hk.2) (.int .i64 (wrap64 (t130)))) (fun _ hk => hk.2) (.int .u8 ((t133) % 256))) (fun _ hk => hk.2) (.slice Ao52 x137011_1.length co52)) (fun _ hk => hk.2) (.slice Ao53 x137012_2.length co53)) (fun _ hk => trivial), by (with_reducible repeat (first | apply Kd.R_alloc | apply Kd.R_drewN | apply Kd.R_drew)); exact Kd.R_mono (Kd.R_far (p := ⟨gb108, 12, none⟩) (Kd.R_far (p := ⟨gb108, 11, none⟩) (Kd.R_far (p := ⟨gb108, 10, none⟩) (Kd.R_far (p := ⟨gb108, 9, none⟩) (Kd.R_far (p := ⟨gb108, 8, none⟩) (Kd.R_far (p := ⟨gb108, 7, none⟩) (Kd.R_far (p := ⟨gb108, 6, none⟩) (Kd.R_far (p := ⟨gb108, 5, none⟩) (Kd.R_far (p := ⟨gb108, 4, none⟩) (Kd.R_far (p := ⟨gb108, 3, none⟩) (Kd.R_far (p := ⟨gb108, 2, none⟩) (Kd.R_far (p := ⟨gb108, 1, none⟩) (Kd.R_far (p := ⟨gb108, 0, none⟩) (Kd.R_types HO_137012.out BK108.out (by decide)) (fun _ hk => hk.2) (.int .i64 (wrap64 (t109)))) (fun _ hk => hk.2) (.int .u32 t112)) (fun _ hk => hk.2) (.int .u32 t113)) (fun _ hk => hk.2) (.int .u64 t116)) (fun _ hk => hk.2) (.int .u32 t117)) (fun _ hk => hk.2) (.int .u64 t120)) (fun _ hk => hk.2) (.int .u32 t121)) (fun _ hk => hk.2) (.string t124)) (fun _ hk => hk.2) (.string t127)) (fun _ hk => hk.2) (.int .i64 (wrap64 (t130)))) (fun _ hk => hk.2) (.int .u8 ((t133) % 256))) (fun _ hk => hk.2) (.slice Ao52 x137011_1.length co52)) (fun _ hk => hk.2) (.slice Ao53 x137012_2.length co53)) (fun _ hk => trivial), by repeat (first | (with_reducible first | exact HI0.out | apply IsS92.alloc | apply IsS92.drewN | apply IsS92.drew | apply IsS92.set_0 | apply IsS92.set_1 | refine IsS92.far ?_ NB0_108.out _ | refine IsS92.far ?_ NB0_136.out _) | exact HI0.out), by repeat (first | (with_reducible first | exact HB.out | apply below_alloc | apply pw_below_drewN | apply below_drew1 | refine below_set ?_ (IsS92.ge HI0.out) | refine below_set ?_ GE108.out | refine below_set ?_ GE136.out) | exact HB.out), by repeat (first | (with_reducible first | exact HK.out | apply KeepBut.set_ | apply keep_drewN | apply keep_drew | apply keep_alloc | refine keep_far ?_ GW108.out _ | refine keep_far ?_ GW136.out _) | exact HK.out)⟩

end Go.Proofs.Ytjfokbkfniilhaa.PLa

/- Contracts of Go functions and what each computes, as plain Lean functions: written by a program of this session over the kit's own print. Conditions: those that each theorem names. -/
import Derived.Test.YtjfokbkfniilhaaPLax0
import Derived.Test.YtjfokbkfniilhaaPLax1
namespace Go.Proofs.Ytjfokbkfniilhaa.PLa
open Go.Proofs.Ytjfokbkfniilhaa Go.Proofs.Ytjfokbkfniilhaa.PRd Go.Proofs.Ytjfokbkfniilhaa.PRt
open Go.RowKit Go.Proofs.YtjfokbkfniilhaaW.PrintWords Go.Proofs.YtjfokbkfniilhaaW.PrintLast Go.Proofs.YtjfokbkfniilhaaW.PrintMore
attribute [local go_sem] max2_int min2_int max_two min_two max_three min_three max_four min_four   -- for this text's walks alone
set_option linter.unusedVariables false
set_option linter.unusedSimpArgs false

/-! ### letter_readReply: function 31 -/
def letter_readReply.l0 : Nat → Int → Int → ByteArray → Int → Int → Int → Bool → ByteArray → List (S68) → Int → Int → Int → Int → Int → Int → ByteArray → Int → Int → Option (Int × Int × Bool × ByteArray × (List (S68)) × Int × Int × Int × Int × Int × Int × ByteArray × Int × Int × ByteArray × Int)
  | 0, _, _, _, _, _, _, _, _, _, _, _, _, _, _, _, _, _, _ => none
  | k + 1, x16, x17, x1000, x1001, x176000, x176001, x176002, x176003, x176004, x176005, x176006, x176007, x176008, x176009, x176010, x176011, x176012, x176013 => if x17 < x16 then ((pack_Reader_Text.f k x1000 x1001 0 32).bind fun bt179 => ((pack_Reader_Text.f k bt179.2.1 bt179.2.2 0 256).bind fun bt182 => (if x176004.length < 4398046511104 then (letter_readReply.l0 k x16 (wrap64 (x17 + 1)) bt182.2.1 bt182.2.2 x176000 x176001 x176002 x176003 (x176004 ++ [(⟨bt179.1, bt182.1⟩ : S68)]) x176005 x176006 x176007 x176008 x176009 x176010 x176011 x176012 x176013) else (none)))) else ((letter_txn.f x1000 x1001).bind fun bt188 => ((pack_Reader_Stamp.f bt188.2.2.1 bt188.2.2.2).bind fun bt192 => ((pack_Reader_Stamp.f bt192.2.2.1 bt192.2.2.2).bind fun bt196 => ((pack_Reader_Text.f k bt196.2.2.1 bt196.2.2.2 0 32).bind fun bt200 => ((pack_Reader_Stamp.f bt200.2.1 bt200.2.2).bind fun bt203 => (some (x176000, x176001, x176002, x176003, x176004, bt188.1, bt188.2.1, bt192.1, bt192.2.1, bt196.1, bt196.2.1, bt200.1, bt203.1, bt203.2.1, bt203.2.2.1, bt203.2.2.2)))))))
def letter_readReply.f (k : Nat) (s0_0 : ByteArray) (s0_1 : Int) : Option (Int × Int × Bool × ByteArray × (List (S68)) × Int × Int × Int × Int × Int × Int × ByteArray × Int × Int × ByteArray × Int) := (pack_Reader_Number.f s0_0 s0_1 10).bind fun bt163 => ((pack_Reader_Number.f bt163.2.1 bt163.2.2 255).bind fun bt166 => ((pack_Reader_Flag.f bt166.2.1 bt166.2.2).bind fun bt169 => ((pack_Reader_Text.f k bt169.2.1 bt169.2.2 0 256).bind fun bt172 => ((pack_Reader_Count.f bt172.2.1 bt172.2.2 32).bind fun bt176 => (letter_readReply.l0 k bt176.1 0 bt176.2.1 bt176.2.2 (wrap64 (bt163.1)) (wrap64 (bt166.1)) bt169.1 bt172.1 ([] : List (S68)) 0 0 0 0 0 0 (⟨#[]⟩ : ByteArray) 0 0)))))
theorem letter_readReply.mono_l : ∀ k, (∀ y0 y1 y2 y3 y4 y5 y6 y7 y8 y9 y10 y11 y12 y13 y14 y15 y16 y17, LeO (letter_readReply.l0 k y0 y1 y2 y3 y4 y5 y6 y7 y8 y9 y10 y11 y12 y13 y14 y15 y16 y17) (letter_readReply.l0 (k + 1) y0 y1 y2 y3 y4 y5 y6 y7 y8 y9 y10 y11 y12 y13 y14 y15 y16 y17))
  | 0 => fun _ _ _ _ _ _ _ _ _ _ _ _ _ _ _ _ _ _ r h => by simp [letter_readReply.l0] at h
  | k + 1 => by
    have ih0 := letter_readReply.mono_l k
    · intro y0 y1 y2 y3 y4 y5 y6 y7 y8 y9 y10 y11 y12 y13 y14 y15 y16 y17
      unfold letter_readReply.l0
      repeat' first
      | (with_reducible exact ih0 _ _ _ _ _ _ _ _ _ _ _ _ _ _ _ _ _ _)
      | (with_reducible exact pack_Reader_Text.mono _ _ _ _ _)
      | (with_reducible exact LeO.refl _)
      | (with_reducible exact LeO.none _)
      | (with_reducible refine LeO.ite ?_ ?_)
      | (with_reducible refine LeO.bind ?_ (fun _ => ?_))
      | exact ih0 _ _ _ _ _ _ _ _ _ _ _ _ _ _ _ _ _ _
      | exact pack_Reader_Text.mono _ _ _ _ _
      | exact LeO.none _
      | refine LeO.ite ?_ ?_
      | refine LeO.bind ?_ (fun _ => ?_)
theorem letter_readReply.mono : ∀ a0 a1 k, LeO (letter_readReply.f k a0 a1) (letter_readReply.f (k + 1) a0 a1) := by
  intro a0 a1 k
  have ih0 := letter_readReply.mono_l k
  unfold letter_readReply.f
  repeat' first
      | (with_reducible exact ih0 _ _ _ _ _ _ _ _ _ _ _ _ _ _ _ _ _ _)
      | (with_reducible exact pack_Reader_Text.mono _ _ _ _ _)
      | (with_reducible exact LeO.refl _)
      | (with_reducible exact LeO.none _)
      | (with_reducible refine LeO.ite ?_ ?_)
      | (with_reducible refine LeO.bind ?_ (fun _ => ?_))
      | exact ih0 _ _ _ _ _ _ _ _ _ _ _ _ _ _ _ _ _ _
      | exact pack_Reader_Text.mono _ _ _ _ _
      | exact LeO.none _
      | refine LeO.ite ?_ ?_
      | refine LeO.bind ?_ (fun _ => ?_)
def letter_readReply.T4 : Bool × List (List Nat × List Nat) := (true, [([], []), ([0], [0]), ([], []), ([2], [2]), ([], []), ([4, 3], [4]), ([3, 5], [3, 5]), ([6], [6]), ([1, 7, 5], [1, 7]), ([0, 1, 2, 3, 4, 5, 6, 7, 8], []), ([9, 8, 8, 0, 1, 2, 3, 4, 5, 6, 7, 8], [8, 9])])
def letter_readReply.B4 : List Nat := [0, 1, 0, 4, 0, 28, 60, 124, 255, 511, 1023]
theorem letter_readReply.tab4 : rtab .any (opsOf Try.f31 4) = letter_readReply.T4 := by kernel_rfl
theorem letter_readReply.bits4 : waitsOk letter_readReply.T4.2 letter_readReply.B4 = true := by kernel_rfl
set_option maxHeartbeats 8000000 in
set_option maxRecDepth 100000 in
theorem letter_readReply.calls (k : Nat) (g : Nat) (s0_0 : ByteArray) (s0_1 : Int) (r1 : Int) (r2 : Int) (r3 : Bool) (r4 : ByteArray) (r5 : List (S68)) (r6 : Int) (r7 : Int) (r8 : Int) (r9 : Int) (r10 : Int) (r11 : Int) (r12 : ByteArray) (r13 : Int) (r14 : Int) (r15 : ByteArray) (r16 : Int) (w0 w : World) (hI : IsS92 w0 w g s0_0 s0_1) (hB : Below w0.heap.size w0 w) (h : letter_readReply.f k s0_0 s0_1 = some (r1, r2, r3, r4, r5, r6, r7, r8, r9, r10, r11, r12, r13, r14, r15, r16)) :
    Calls Try.prog 31 #[.pointer (some ⟨g, 0, none⟩)] w fun e w' => ∃ v4_ : Value, e = .returned (.agg #[.int .i64 r1, .int .i64 r2, .bool r3, .string r4, v4_, .int .u32 r6, .int .u32 r7, .int .u64 r8, .int .u32 r9, .int .u64 r10, .int .u32 r11, .string r12, .int .u64 r13, .int .u32 r14]) ∧ Kd.R k68 68 w' w.heap.size (fun _ => True) v4_ r5 ∧ IsS92 w0 w' g r15 r16 ∧ Below w0.heap.size w0 w' ∧ KeepBut w w' g none := by
  have hu35 := Try.underlying35
  have hu68 := Try.underlying68
  have hu24 := Try.underlying24
  have hu27 := Try.underlying27
  have HI0 := Aside0.mk hI
  have HK := Aside0.mk (KeepBut.refl w g none)
  have HL := Aside0.mk hB.size
  clear hI
  have HW0 := Aside0.mk hB.size
  have HB := Aside0.mk hB
  clear hB
  have H : ((pack_Reader_Number.f s0_0 s0_1 10).bind fun bt163 => ((pack_Reader_Number.f bt163.2.1 bt163.2.2 255).bind fun bt166 => ((pack_Reader_Flag.f bt166.2.1 bt166.2.2).bind fun bt169 => ((pack_Reader_Text.f k bt169.2.1 bt169.2.2 0 256).bind fun bt172 => ((pack_Reader_Count.f bt172.2.1 bt172.2.2 32).bind fun bt176 => (letter_readReply.l0 k bt176.1 0 bt176.2.1 bt176.2.2 (wrap64 (bt163.1)) (wrap64 (bt166.1)) bt169.1 bt172.1 ([] : List (S68)) 0 0 0 0 0 0 (⟨#[]⟩ : ByteArray) 0 0)))))) = some (r1, r2, r3, r4, r5, r6, r7, r8, r9, r10, r11, r12, r13, r14, r15, r16) := h
  clear h
  replace H := Option.bind_eq_some_iff.mp H
  obtain ⟨⟨t163, t164, t165⟩, A20, H⟩ := H
  replace H : ((pack_Reader_Number.f t164 t165 255).bind fun bt166 => ((pack_Reader_Flag.f bt166.2.1 bt166.2.2).bind fun bt169 => ((pack_Reader_Text.f k bt169.2.1 bt169.2.2 0 256).bind fun bt172 => ((pack_Reader_Count.f bt172.2.1 bt172.2.2 32).bind fun bt176 => (letter_readReply.l0 k bt176.1 0 bt176.2.1 bt176.2.2 (wrap64 (t163)) (wrap64 (bt166.1)) bt169.1 bt172.1 ([] : List (S68)) 0 0 0 0 0 0 (⟨#[]⟩ : ByteArray) 0 0))))) = some (r1, r2, r3, r4, r5, r6, r7, r8, r9, r10, r11, r12, r13, r14, r15, r16) := H
  have A2 := Aside0.mk A20
  clear A20
  replace H := Option.bind_eq_some_iff.mp H
  obtain ⟨⟨t166, t167, t168⟩, A30, H⟩ := H
  replace H : ((pack_Reader_Flag.f t167 t168).bind fun bt169 => ((pack_Reader_Text.f k bt169.2.1 bt169.2.2 0 256).bind fun bt172 => ((pack_Reader_Count.f bt172.2.1 bt172.2.2 32).bind fun bt176 => (letter_readReply.l0 k bt176.1 0 bt176.2.1 bt176.2.2 (wrap64 (t163)) (wrap64 (t166)) bt169.1 bt172.1 ([] : List (S68)) 0 0 0 0 0 0 (⟨#[]⟩ : ByteArray) 0 0)))) = some (r1, r2, r3, r4, r5, r6, r7, r8, r9, r10, r11, r12, r13, r14, r15, r16) := H
  have A3 := Aside0.mk A30
  clear A30
  replace H := Option.bind_eq_some_iff.mp H
  obtain ⟨⟨t169, t170, t171⟩, A40, H⟩ := H
  replace H : ((pack_Reader_Text.f k t170 t171 0 256).bind fun bt172 => ((pack_Reader_Count.f bt172.2.1 bt172.2.2 32).bind fun bt176 => (letter_readReply.l0 k bt176.1 0 bt176.2.1 bt176.2.2 (wrap64 (t163)) (wrap64 (t166)) t169 bt172.1 ([] : List (S68)) 0 0 0 0 0 0 (⟨#[]⟩ : ByteArray) 0 0))) = some (r1, r2, r3, r4, r5, r6, r7, r8, r9, r10, r11, r12, r13, r14, r15, r16) := H
  have A4 := Aside0.mk A40
  clear A40
  replace H := Option.bind_eq_some_iff.mp H
  obtain ⟨⟨t172, t173, t174⟩, A50, H⟩ := H
  replace H : ((pack_Reader_Count.f t173 t174 32).bind fun bt176 => (letter_readReply.l0 k bt176.1 0 bt176.2.1 bt176.2.2 (wrap64 (t163)) (wrap64 (t166)) t169 t172 ([] : List (S68)) 0 0 0 0 0 0 (⟨#[]⟩ : ByteArray) 0 0)) = some (r1, r2, r3, r4, r5, r6, r7, r8, r9, r10, r11, r12, r13, r14, r15, r16) := H
  have A5 := Aside0.mk A50
  clear A50
  replace H := Option.bind_eq_some_iff.mp H
  obtain ⟨⟨t176, t177, t178⟩, A60, H⟩ := H
  replace H : (letter_readReply.l0 k t176 0 t177 t178 (wrap64 (t163)) (wrap64 (t166)) t169 t172 ([] : List (S68)) 0 0 0 0 0 0 (⟨#[]⟩ : ByteArray) 0 0) = some (r1, r2, r3, r4, r5, r6, r7, r8, r9, r10, r11, r12, r13, r14, r15, r16) := H
  have A6 := Aside0.mk A60
  clear A60
  have H' := Aside0.mk H
  clear H
  go_enter Try.func31, Try.ntmps31
  go_wp2_with (first | ((with_reducible refine gate_dst (N := 2) rfl ?_); refine box_event ?hg (N := 2) ?hd (cs := #[.int .i64 0, .int .i64 0, .bool false, .string (⟨#[]⟩ : ByteArray), .slice none 0 0, .int .u32 0, .int .u32 0, .int .u64 0, .int .u32 0, .int .u64 0, .int .u32 0, .string (⟨#[]⟩ : ByteArray), .int .u64 0, .int .u32 0]) (t := 35) ?hr ?_; (case hd => rfl); (case hg => rfl); (case hr => first | (go_simp; done) | (go_simp; rfl)); intro gb162 hg w7 hbox hb; have n0_ := Aside0.mk (IsS92.below (by repeat (first | (with_reducible first | exact HI0.out | apply IsS92.alloc | apply IsS92.drewN | apply IsS92.drew | apply IsS92.set_0 | apply IsS92.set_1) | exact HI0.out)) hb); have n1_ := Aside0.mk (KeepBut.trans (by repeat (first | (with_reducible first | exact HK.out | apply KeepBut.set_ | apply keep_drewN | apply keep_drew | apply keep_alloc) | exact HK.out)) (KeepBut.of_below hb g none) (.inl rfl)); have n2_ := Aside0.mk (below_step (by repeat (first | (with_reducible first | exact HB.out | apply below_alloc | apply pw_below_drewN | apply below_drew1 | refine below_set ?_ (IsS92.ge HI0.out)) | exact HB.out)) hb); have n3_ := Aside0.mk (hbox); have n4_ := Aside0.mk ((by rw [hg]; exact (keep_size (w := w) (g := g) (row := none) (by repeat (first | (with_reducible first | exact HK.out | apply KeepBut.set_ | apply keep_drewN | apply keep_drew | apply keep_alloc) | exact HK.out))) : w.heap.size ≤ gb162)); have n5_ := Aside0.mk ((Nat.le_trans HW0.out (by rw [hg]; exact (keep_size (w := w) (g := g) (row := none) (by repeat (first | (with_reducible first | exact HK.out | apply KeepBut.set_ | apply keep_drewN | apply keep_drew | apply keep_alloc) | exact HK.out))) : w.heap.size ≤ gb162) : w0.heap.size ≤ gb162)); have n6_ := Aside0.mk ((by rw [hg]; exact Nat.ne_of_lt (IsS92.lt (show IsS92 w0 _ g s0_0 s0_1 from by repeat (first | (with_reducible first | exact HI0.out | apply IsS92.alloc | apply IsS92.drewN | apply IsS92.drew | apply IsS92.set_0 | apply IsS92.set_1) | exact HI0.out))) : g ≠ gb162)); have n7_ := Aside0.mk ((by rw [hg]; exact Nat.ne_of_gt (IsS92.lt (show IsS92 w0 _ g s0_0 s0_1 from by repeat (first | (with_reducible first | exact HI0.out | apply IsS92.alloc | apply IsS92.drewN | apply IsS92.drew | apply IsS92.set_0 | apply IsS92.set_1) | exact HI0.out))) : gb162 ≠ g)); clear HI0; clear HK; clear HB; have HI0 := n0_; have HK := n1_; have HB := n2_; have BK162 := n3_; have GW162 := n4_; have GE162 := n5_; have NB0_162 := n6_; have NB162_0 := n7_; clear n0_ n1_ n2_ n3_ n4_ n5_ n6_ n7_; clear hb hbox hg) | ((with_reducible refine gate_callee (f := 29) rfl ?_); refine goesL_ (some 5) rfl rfl Try.func29 (by kernel_rfl) rfl #[.pointer (some ⟨g, 0, none⟩), .int .u64 10] rfl (by (try simp only [List.map_toArray, List.map_cons, List.map_nil]); first | done | rfl | (simp only [List.length_drop, List.length_take]; rfl)) ?_; (with_reducible refine (pack_Reader_Number.calls g s0_0 s0_1 10 t163 t164 t165 w0 _ ?side1 ?side2 A2.out).mono ?_); (case side1 => repeat (first | (with_reducible first | exact HI0.out | apply IsS92.alloc | apply IsS92.drewN | apply IsS92.drew | apply IsS92.set_0 | apply IsS92.set_1 | refine IsS92.far ?_ NB0_162.out _) | exact HI0.out)); (case side2 => repeat (first | (with_reducible first | exact HB.out | apply below_alloc | apply pw_below_drewN | apply below_drew1 | refine below_set ?_ (IsS92.ge HI0.out) | refine below_set ?_ GE162.out) | exact HB.out)); rintro e w8 ⟨rfl, hi, hb, hk⟩; refine ⟨_, rfl, ?_⟩; have n0_ := Aside0.mk (KeepBut.blk hk (g' := gb162) (o := .cells #[.int .i64 0, .int .i64 0, .bool false, .string (⟨#[]⟩ : ByteArray), .slice none 0 0, .int .u32 0, .int .u32 0, .int .u64 0, .int .u32 0, .int .u64 0, .int .u32 0, .string (⟨#[]⟩ : ByteArray), .int .u64 0, .int .u32 0] 35 (0, 0)) (by (with_reducible repeat (first | refine blk_drewN ?_ _ | refine blk_drew ?_ | refine blk_alloc ?_ _)); exact BK162.out) NB162_0.out (by simp)); have n1_ := Aside0.mk (KeepBut.trans (by repeat (first | (with_reducible first | exact HK.out | apply KeepBut.set_ | apply keep_drewN | apply keep_drew | apply keep_alloc | refine keep_far ?_ GW162.out _) | exact HK.out)) hk (.inl rfl)); have n2_ := Aside0.mk (hb); have n3_ := Aside0.mk (hi); clear BK162; clear HK; clear HB; clear HI0; have BK162 := n0_; have HK := n1_; have HB := n2_; have HI0 := n3_; clear n0_ n1_ n2_ n3_; (try clear hb); (try clear hb2); (try clear hk); (try clear hi)) | ((with_reducible refine gate_callee (f := 29) rfl ?_); refine goesL_ (some 8) rfl rfl Try.func29 (by kernel_rfl) rfl #[.pointer (some ⟨g, 0, none⟩), .int .u64 255] rfl (by (try simp only [List.map_toArray, List.map_cons, List.map_nil]); first | done | rfl | (simp only [List.length_drop, List.length_take]; rfl)) ?_; (with_reducible refine (pack_Reader_Number.calls g t164 t165 255 t166 t167 t168 w0 _ ?side1 ?side2 A3.out).mono ?_); (case side1 => repeat (first | (with_reducible first | exact HI0.out | apply IsS92.alloc | apply IsS92.drewN | apply IsS92.drew | apply IsS92.set_0 | apply IsS92.set_1 | refine IsS92.far ?_ NB0_162.out _) | exact HI0.out)); (case side2 => repeat (first | (with_reducible first | exact HB.out | apply below_alloc | apply pw_below_drewN | apply below_drew1 | refine below_set ?_ (IsS92.ge HI0.out) | refine below_set ?_ GE162.out) | exact HB.out)); rintro e w9 ⟨rfl, hi, hb, hk⟩; refine ⟨_, rfl, ?_⟩; have n0_ := Aside0.mk (KeepBut.blk hk (g' := gb162) (o := .cells #[.int .i64 0, .int .i64 0, .bool false, .string (⟨#[]⟩ : ByteArray), .slice none 0 0, .int .u32 0, .int .u32 0, .int .u64 0, .int .u32 0, .int .u64 0, .int .u32 0, .string (⟨#[]⟩ : ByteArray), .int .u64 0, .int .u32 0] 35 (0, 0)) (by (with_reducible repeat (first | refine blk_drewN ?_ _ | refine blk_drew ?_ | refine blk_alloc ?_ _)); exact BK162.out) NB162_0.out (by simp)); have n1_ := Aside0.mk (KeepBut.trans (by repeat (first | (with_reducible first | exact HK.out | apply KeepBut.set_ | apply keep_drewN | apply keep_drew | apply keep_alloc | refine keep_far ?_ GW162.out _) | exact HK.out)) hk (.inl rfl)); have n2_ := Aside0.mk (hb); have n3_ := Aside0.mk (hi); clear BK162; clear HK; clear HB; clear HI0; have BK162 := n0_; have HK := n1_; have HB := n2_; have HI0 := n3_; clear n0_ n1_ n2_ n3_; (try clear hb); (try clear hb2); (try clear hk); (try clear hi)) | ((with_reducible refine gate_callee (f := 30) rfl ?_); refine goesL_ (some 11) rfl rfl Try.func30 (by kernel_rfl) rfl #[.pointer (some ⟨g, 0, none⟩)] rfl (by (try simp only [List.map_toArray, List.map_cons, List.map_nil]); first | done | rfl | (simp only [List.length_drop, List.length_take]; rfl)) ?_; (with_reducible refine (pack_Reader_Flag.calls g t167 t168 t169 t170 t171 w0 _ ?side1 ?side2 A4.out).mono ?_); (case side1 => repeat (first | (with_reducible first | exact HI0.out | apply IsS92.alloc | apply IsS92.drewN | apply IsS92.drew | apply IsS92.set_0 | apply IsS92.set_1 | refine IsS92.far ?_ NB0_162.out _) | exact HI0.out)); (case side2 => repeat (first | (with_reducible first | exact HB.out | apply below_alloc | apply pw_below_drewN | apply below_drew1 | refine below_set ?_ (IsS92.ge HI0.out) | refine below_set ?_ GE162.out) | exact HB.out)); rintro e w10 ⟨rfl, hi, hb, hk⟩; refine ⟨_, rfl, ?_⟩; have n0_ := Aside0.mk (KeepBut.blk hk (g' := gb162) (o := .cells #[.int .i64 0, .int .i64 0, .bool false, .string (⟨#[]⟩ : ByteArray), .slice none 0 0, .int .u32 0, .int .u32 0, .int .u64 0, .int .u32 0, .int .u64 0, .int .u32 0, .string (⟨#[]⟩ : ByteArray), .int .u64 0, .int .u32 0] 35 (0, 0)) (by (with_reducible repeat (first | refine blk_drewN ?_ _ | refine blk_drew ?_ | refine blk_alloc ?_ _)); exact BK162.out) NB162_0.out (by simp)); have n1_ := Aside0.mk (KeepBut.trans (by repeat (first | (with_reducible first | exact HK.out | apply KeepBut.set_ | apply keep_drewN | apply keep_drew | apply keep_alloc | refine keep_far ?_ GW162.out _) | exact HK.out)) hk (.inl rfl)); have n2_ := Aside0.mk (hb); have n3_ := Aside0.mk (hi); clear BK162; clear HK; clear HB; clear HI0; have BK162 := n0_; have HK := n1_; have HB := n2_; have HI0 := n3_; clear n0_ n1_ n2_ n3_; (try clear hb); (try clear hb2); (try clear hk); (try clear hi)) | ((with_reducible refine gate_callee (f := 52) rfl ?_); refine goesL_ (some 13) rfl rfl Try.func52 (by kernel_rfl) rfl #[.pointer (some ⟨g, 0, none⟩), .int .i64 0, .int .i64 256] rfl (by (try simp only [List.map_toArray, List.map_cons, List.map_nil]); first | done | rfl | (simp only [List.length_drop, List.length_take]; rfl)) ?_; (with_reducible refine (pack_Reader_Text.calls k g t170 t171 0 256 t172 t173 t174 w0 _ ?side1 ?side2 A5.out).mono ?_); (case side1 => repeat (first | (with_reducible first | exact HI0.out | apply IsS92.alloc | apply IsS92.drewN | apply IsS92.drew | apply IsS92.set_0 | apply IsS92.set_1 | refine IsS92.far ?_ NB0_162.out _) | exact HI0.out)); (case side2 => repeat (first | (with_reducible first | exact HB.out | apply below_alloc | apply pw_below_drewN | apply below_drew1 | refine below_set ?_ (IsS92.ge HI0.out) | refine below_set ?_ GE162.out) | exact HB.out)); rintro e w11 ⟨rfl, hi, hb, hk⟩; refine ⟨_, rfl, ?_⟩; have n0_ := Aside0.mk (KeepBut.blk hk (g' := gb162) (o := .cells #[.int .i64 0, .int .i64 0, .bool false, .string (⟨#[]⟩ : ByteArray), .slice none 0 0, .int .u32 0, .int .u32 0, .int .u64 0, .int .u32 0, .int .u64 0, .int .u32 0, .string (⟨#[]⟩ : ByteArray), .int .u64 0, .int .u32 0] 35 (0, 0)) (by (with_reducible repeat (first | refine blk_drewN ?_ _ | refine blk_drew ?_ | refine blk_alloc ?_ _)); exact BK162.out) NB162_0.out (by simp)); have n1_ := Aside0.mk (KeepBut.trans (by repeat (first | (with_reducible first | exact HK.out | apply KeepBut.set_ | apply keep_drewN | apply keep_drew | apply keep_alloc | refine keep_far ?_ GW162.out _) | exact HK.out)) hk (.inl rfl)); have n2_ := Aside0.mk (hb); have n3_ := Aside0.mk (hi); clear BK162; clear HK; clear HB; clear HI0; have BK162 := n0_; have HK := n1_; have HB := n2_; have HI0 := n3_; clear n0_ n1_ n2_ n3_; (try clear hb); (try clear hb2); (try clear hk); (try clear hi)) | ((with_reducible refine gate_dst (N := 3) rfl ?_); refine box_event ?hg (N := 3) ?hd (cs := #[.int .i64 0, .int .i64 0, .bool false, .string (⟨#[]⟩ : ByteArray), .slice none 0 0, .int .u32 0, .int .u32 0, .int .u64 0, .int .u32 0, .int .u64 0, .int .u32 0, .string (⟨#[]⟩ : ByteArray), .int .u64 0, .int .u32 0]) (t := 35) ?hr ?_; (case hd => rfl); (case hg => rfl); (case hr => first | (go_simp; done) | (go_simp; rfl)); intro gb175 hg w12 hbox hb; have n0_ := Aside0.mk (IsS92.below (by repeat (first | (with_reducible first | exact HI0.out | apply IsS92.alloc | apply IsS92.drewN | apply IsS92.drew | apply IsS92.set_0 | apply IsS92.set_1 | refine IsS92.far ?_ NB0_162.out _) | exact HI0.out)) hb); have n1_ := Aside0.mk (blk_below (g := gb162) (o := .cells #[.int .i64 0, .int .i64 0, .bool false, .string (⟨#[]⟩ : ByteArray), .slice none 0 0, .int .u32 0, .int .u32 0, .int .u64 0, .int .u32 0, .int .u64 0, .int .u32 0, .string (⟨#[]⟩ : ByteArray), .int .u64 0, .int .u32 0] 35 (0, 0)) (by (with_reducible repeat (first | refine blk_drewN ?_ _ | refine blk_drew ?_ | refine blk_alloc ?_ _)); exact BK162.out) hb); have n2_ := Aside0.mk (KeepBut.trans (by repeat (first | (with_reducible first | exact HK.out | apply KeepBut.set_ | apply keep_drewN | apply keep_drew | apply keep_alloc | refine keep_far ?_ GW162.out _) | exact HK.out)) (KeepBut.of_below hb g none) (.inl rfl)); have n3_ := Aside0.mk (below_step (by repeat (first | (with_reducible first | exact HB.out | apply below_alloc | apply pw_below_drewN | apply below_drew1 | refine below_set ?_ (IsS92.ge HI0.out) | refine below_set ?_ GE162.out) | exact HB.out)) hb); have n4_ := Aside0.mk (hbox); have n5_ := Aside0.mk ((by rw [hg]; exact (keep_size (w := w) (g := g) (row := none) (by repeat (first | (with_reducible first | exact HK.out | apply KeepBut.set_ | apply keep_drewN | apply keep_drew | apply keep_alloc | refine keep_far ?_ GW162.out _) | exact HK.out))) : w.heap.size ≤ gb175)); have n6_ := Aside0.mk ((Nat.le_trans HW0.out (by rw [hg]; exact (keep_size (w := w) (g := g) (row := none) (by repeat (first | (with_reducible first | exact HK.out | apply KeepBut.set_ | apply keep_drewN | apply keep_drew | apply keep_alloc | refine keep_far ?_ GW162.out _) | exact HK.out))) : w.heap.size ≤ gb175) : w0.heap.size ≤ gb175)); have n7_ := Aside0.mk ((by rw [hg]; exact Nat.ne_of_lt (blk_lt (g := gb162) (o := .cells #[.int .i64 0, .int .i64 0, .bool false, .string (⟨#[]⟩ : ByteArray), .slice none 0 0, .int .u32 0, .int .u32 0, .int .u64 0, .int .u32 0, .int .u64 0, .int .u32 0, .string (⟨#[]⟩ : ByteArray), .int .u64 0, .int .u32 0] 35 (0, 0)) (by (with_reducible repeat (first | refine blk_drewN ?_ _ | refine blk_drew ?_ | refine blk_alloc ?_ _)); exact BK162.out)) : gb162 ≠ gb175)); have n8_ := Aside0.mk ((by rw [hg]; exact Nat.ne_of_gt (blk_lt (g := gb162) (o := .cells #[.int .i64 0, .int .i64 0, .bool false, .string (⟨#[]⟩ : ByteArray), .slice none 0 0, .int .u32 0, .int .u32 0, .int .u64 0, .int .u32 0, .int .u64 0, .int .u32 0, .string (⟨#[]⟩ : ByteArray), .int .u64 0, .int .u32 0] 35 (0, 0)) (by (with_reducible repeat (first | refine blk_drewN ?_ _ | refine blk_drew ?_ | refine blk_alloc ?_ _)); exact BK162.out)) : gb175 ≠ gb162)); have n9_ := Aside0.mk ((by rw [hg]; exact Nat.ne_of_lt (IsS92.lt (show IsS92 w0 _ g t173 t174 from by repeat (first | (with_reducible first | exact HI0.out | apply IsS92.alloc | apply IsS92.drewN | apply IsS92.drew | apply IsS92.set_0 | apply IsS92.set_1 | refine IsS92.far ?_ NB0_162.out _) | exact HI0.out))) : g ≠ gb175)); have n10_ := Aside0.mk ((by rw [hg]; exact Nat.ne_of_gt (IsS92.lt (show IsS92 w0 _ g t173 t174 from by repeat (first | (with_reducible first | exact HI0.out | apply IsS92.alloc | apply IsS92.drewN | apply IsS92.drew | apply IsS92.set_0 | apply IsS92.set_1 | refine IsS92.far ?_ NB0_162.out _) | exact HI0.out))) : gb175 ≠ g)); clear HI0; clear BK162; clear HK; clear HB; have HI0 := n0_; have BK162 := n1_; have HK := n2_; have HB := n3_; have BK175 := n4_; have GW175 := n5_; have GE175 := n6_; have NB162_175 := n7_; have NB175_162 := n8_; have NB0_175 := n9_; have NB175_0 := n10_; clear n0_ n1_ n2_ n3_ n4_ n5_ n6_ n7_ n8_ n9_ n10_; clear hb hbox hg; have hnb13 := NB175_162.out; have hnc13 := NB162_175.out; have hnb14 := NB175_0.out; have hnc14 := NB0_175.out; have hcz15_0 : w12.cell? ⟨gb175, 0, none⟩ = some (.int .i64 0) := (blk_cell BK175.out 0).trans rfl; have hcz15_1 : w12.cell? ⟨gb175, 1, none⟩ = some (.int .i64 0) := (blk_cell BK175.out 1).trans rfl; have hcz15_2 : w12.cell? ⟨gb175, 2, none⟩ = some (.bool false) := (blk_cell BK175.out 2).trans rfl; have hcz15_3 : w12.cell? ⟨gb175, 3, none⟩ = some (.string (⟨#[]⟩ : ByteArray)) := (blk_cell BK175.out 3).trans rfl; have hcz15_4 : w12.cell? ⟨gb175, 4, none⟩ = some (.slice none 0 0) := (blk_cell BK175.out 4).trans rfl; have hcz15_5 : w12.cell? ⟨gb175, 5, none⟩ = some (.int .u32 0) := (blk_cell BK175.out 5).trans rfl; have hcz15_6 : w12.cell? ⟨gb175, 6, none⟩ = some (.int .u32 0) := (blk_cell BK175.out 6).trans rfl; have hcz15_7 : w12.cell? ⟨gb175, 7, none⟩ = some (.int .u64 0) := (blk_cell BK175.out 7).trans rfl; have hcz15_8 : w12.cell? ⟨gb175, 8, none⟩ = some (.int .u32 0) := (blk_cell BK175.out 8).trans rfl; have hcz15_9 : w12.cell? ⟨gb175, 9, none⟩ = some (.int .u64 0) := (blk_cell BK175.out 9).trans rfl; have hcz15_10 : w12.cell? ⟨gb175, 10, none⟩ = some (.int .u32 0) := (blk_cell BK175.out 10).trans rfl; have hcz15_11 : w12.cell? ⟨gb175, 11, none⟩ = some (.string (⟨#[]⟩ : ByteArray)) := (blk_cell BK175.out 11).trans rfl; have hcz15_12 : w12.cell? ⟨gb175, 12, none⟩ = some (.int .u64 0) := (blk_cell BK175.out 12).trans rfl; have hcz15_13 : w12.cell? ⟨gb175, 13, none⟩ = some (.int .u32 0) := (blk_cell BK175.out 13).trans rfl; have hfz15_0 := blk_frozen BK175.out 0; have hfz15_1 := blk_frozen BK175.out 1; have hfz15_2 := blk_frozen BK175.out 2; have hfz15_3 := blk_frozen BK175.out 3; have hfz15_4 := blk_frozen BK175.out 4; have hfz15_5 := blk_frozen BK175.out 5; have hfz15_6 := blk_frozen BK175.out 6; have hfz15_7 := blk_frozen BK175.out 7; have hfz15_8 := blk_frozen BK175.out 8; have hfz15_9 := blk_frozen BK175.out 9; have hfz15_10 := blk_frozen BK175.out 10; have hfz15_11 := blk_frozen BK175.out 11; have hfz15_12 := blk_frozen BK175.out 12; have hfz15_13 := blk_frozen BK175.out 13) | ((with_reducible refine gate_callee (f := 53) rfl ?_); refine goesL_ (some 16) rfl rfl Try.func53 (by kernel_rfl) rfl #[.pointer (some ⟨g, 0, none⟩), .int .i64 32] rfl (by (try simp only [List.map_toArray, List.map_cons, List.map_nil]); first | done | rfl | (simp only [List.length_drop, List.length_take]; rfl)) ?_; (with_reducible refine (pack_Reader_Count.calls g t173 t174 32 t176 t177 t178 w0 _ ?side1 ?side2 A6.out).mono ?_); (case side1 => repeat (first | (with_reducible first | exact HI0.out | apply IsS92.alloc | apply IsS92.drewN | apply IsS92.drew | apply IsS92.set_0 | apply IsS92.set_1 | refine IsS92.far ?_ NB0_162.out _ | refine IsS92.far ?_ NB0_175.out _) | exact HI0.out)); (case side2 => repeat (first | (with_reducible first | exact HB.out | apply below_alloc | apply pw_below_drewN | apply below_drew1 | refine below_set ?_ (IsS92.ge HI0.out) | refine below_set ?_ GE162.out | refine below_set ?_ GE175.out) | exact HB.out)); rintro e w16 ⟨rfl, hi, hb, hk⟩; refine ⟨_, rfl, ?_⟩; have n0_ := Aside0.mk (KeepBut.blk hk (g' := gb162) (o := .cells #[.int .i64 0, .int .i64 0, .bool false, .string (⟨#[]⟩ : ByteArray), .slice none 0 0, .int .u32 0, .int .u32 0, .int .u64 0, .int .u32 0, .int .u64 0, .int .u32 0, .string (⟨#[]⟩ : ByteArray), .int .u64 0, .int .u32 0] 35 (0, 0)) (by (with_reducible repeat (first | refine blk_drewN ?_ _ | refine blk_drew ?_ | refine blk_alloc ?_ _)); refine blk_far ?_ NB162_175.out _; (with_reducible repeat (first | refine blk_drewN ?_ _ | refine blk_drew ?_ | refine blk_alloc ?_ _)); refine blk_far ?_ NB162_175.out _; (with_reducible repeat (first | refine blk_drewN ?_ _ | refine blk_drew ?_ | refine blk_alloc ?_ _)); refine blk_far ?_ NB162_175.out _; (with_reducible repeat (first | refine blk_drewN ?_ _ | refine blk_drew ?_ | refine blk_alloc ?_ _)); refine blk_far ?_ NB162_175.out _; (with_reducible repeat (first | refine blk_drewN ?_ _ | refine blk_drew ?_ | refine blk_alloc ?_ _)); refine blk_far ?_ NB162_175.out _; (with_reducible repeat (first | refine blk_drewN ?_ _ | refine blk_drew ?_ | refine blk_alloc ?_ _)); refine blk_far ?_ NB162_175.out _; (with_reducible repeat (first | refine blk_drewN ?_ _ | refine blk_drew ?_ | refine blk_alloc ?_ _)); refine blk_far ?_ NB162_175.out _; (with_reducible repeat (first | refine blk_drewN ?_ _ | refine blk_drew ?_ | refine blk_alloc ?_ _)); refine blk_far ?_ NB162_175.out _; (with_reducible repeat (first | refine blk_drewN ?_ _ | refine blk_drew ?_ | refine blk_alloc ?_ _)); refine blk_far ?_ NB162_175.out _; (with_reducible repeat (first | refine blk_drewN ?_ _ | refine blk_drew ?_ | refine blk_alloc ?_ _)); refine blk_far ?_ NB162_175.out _; (with_reducible repeat (first | refine blk_drewN ?_ _ | refine blk_drew ?_ | refine blk_alloc ?_ _)); refine blk_far ?_ NB162_175.out _; (with_reducible repeat (first | refine blk_drewN ?_ _ | refine blk_drew ?_ | refine blk_alloc ?_ _)); refine blk_far ?_ NB162_175.out _; (with_reducible repeat (first | refine blk_drewN ?_ _ | refine blk_drew ?_ | refine blk_alloc ?_ _)); refine blk_far ?_ NB162_175.out _; (with_reducible repeat (first | refine blk_drewN ?_ _ | refine blk_drew ?_ | refine blk_alloc ?_ _)); refine blk_far ?_ NB162_175.out _; (with_reducible repeat (first | refine blk_drewN ?_ _ | refine blk_drew ?_ | refine blk_alloc ?_ _)); exact BK162.out) NB162_0.out (by simp)); have n1_ := Aside0.mk (KeepBut.blk hk (g' := gb175) (o := .cells #[.int .i64 (wrap64 (t163)), .int .i64 (wrap64 (t166)), .bool t169, .string t172, .slice none 0 0, .int .u32 0, .int .u32 0, .int .u64 0, .int .u32 0, .int .u64 0, .int .u32 0, .string (⟨#[]⟩ : ByteArray), .int .u64 0, .int .u32 0] 35 (0, 0)) (by (with_reducible repeat (first | refine blk_drewN ?_ _ | refine blk_drew ?_ | refine blk_alloc ?_ _)); refine blk_put (cs := #[.int .i64 (wrap64 (t163)), .int .i64 (wrap64 (t166)), .bool t169, .string t172, .slice none 0 0, .int .u32 0, .int .u32 0, .int .u64 0, .int .u32 0, .int .u64 0, .int .u32 0, .string (⟨#[]⟩ : ByteArray), .int .u64 0, .int .u32 0]) ?_ 13 _ rfl; (with_reducible repeat (first | refine blk_drewN ?_ _ | refine blk_drew ?_ | refine blk_alloc ?_ _)); refine blk_put (cs := #[.int .i64 (wrap64 (t163)), .int .i64 (wrap64 (t166)), .bool t169, .string t172, .slice none 0 0, .int .u32 0, .int .u32 0, .int .u64 0, .int .u32 0, .int .u64 0, .int .u32 0, .string (⟨#[]⟩ : ByteArray), .int .u64 0, .int .u32 0]) ?_ 12 _ rfl; (with_reducible repeat (first | refine blk_drewN ?_ _ | refine blk_drew ?_ | refine blk_alloc ?_ _)); refine blk_put (cs := #[.int .i64 (wrap64 (t163)), .int .i64 (wrap64 (t166)), .bool t169, .string t172, .slice none 0 0, .int .u32 0, .int .u32 0, .int .u64 0, .int .u32 0, .int .u64 0, .int .u32 0, .string (⟨#[]⟩ : ByteArray), .int .u64 0, .int .u32 0]) ?_ 11 _ rfl; (with_reducible repeat (first | refine blk_drewN ?_ _ | refine blk_drew ?_ | refine blk_alloc ?_ _)); refine blk_put (cs := #[.int .i64 (wrap64 (t163)), .int .i64 (wrap64 (t166)), .bool t169, .string t172, .slice none 0 0, .int .u32 0, .int .u32 0, .int .u64 0, .int .u32 0, .int .u64 0, .int .u32 0, .string (⟨#[]⟩ : ByteArray), .int .u64 0, .int .u32 0]) ?_ 10 _ rfl; (with_reducible repeat (first | refine blk_drewN ?_ _ | refine blk_drew ?_ | refine blk_alloc ?_ _)); refine blk_put (cs := #[.int .i64 (wrap64 (t163)), .int .i64 (wrap64 (t166)), .bool t169, .string t172, .slice none 0 0, .int .u32 0, .int .u32 0, .int .u64 0, .int .u32 0, .int .u64 0, .int .u32 0, .string (⟨#[]⟩ : ByteArray), .int .u64 0, .int .u32 0]) ?_ 9 _ rfl; (with_reducible repeat (first | refine blk_drewN ?_ _ | refine blk_drew ?_ | refine blk_alloc ?_ _)); refine blk_put (cs := #[.int .i64 (wrap64 (t163)), .int .i64 (wrap64 (t166)), .bool t169, .string t172, .slice none 0 0, .int .u32 0, .int .u32 0, .int .u64 0, .int .u32 0, .int .u64 0, .int .u32 0, .string (⟨#[]⟩ : ByteArray), .int .u64 0, .int .u32 0]) ?_ 8 _ rfl; (with_reducible repeat (first | refine blk_drewN ?_ _ | refine blk_drew ?_ | refine blk_alloc ?_ _)); refine blk_put (cs := #[.int .i64 (wrap64 (t163)), .int .i64 (wrap64 (t166)), .bool t169, .string t172, .slice none 0 0, .int .u32 0, .int .u32 0, .int .u64 0, .int .u32 0, .int .u64 0, .int .u32 0, .string (⟨#[]⟩ : ByteArray), .int .u64 0, .int .u32 0]) ?_ 7 _ rfl; (with_reducible repeat (first | refine blk_drewN ?_ _ | refine blk_drew ?_ | refine blk_alloc ?_ _)); refine blk_put (cs := #[.int .i64 (wrap64 (t163)), .int .i64 (wrap64 (t166)), .bool t169, .string t172, .slice none 0 0, .int .u32 0, .int .u32 0, .int .u64 0, .int .u32 0, .int .u64 0, .int .u32 0, .string (⟨#[]⟩ : ByteArray), .int .u64 0, .int .u32 0]) ?_ 6 _ rfl; (with_reducible repeat (first | refine blk_drewN ?_ _ | refine blk_drew ?_ | refine blk_alloc ?_ _)); refine blk_put (cs := #[.int .i64 (wrap64 (t163)), .int .i64 (wrap64 (t166)), .bool t169, .string t172, .slice none 0 0, .int .u32 0, .int .u32 0, .int .u64 0, .int .u32 0, .int .u64 0, .int .u32 0, .string (⟨#[]⟩ : ByteArray), .int .u64 0, .int .u32 0]) ?_ 5 _ rfl; (with_reducible repeat (first | refine blk_drewN ?_ _ | refine blk_drew ?_ | refine blk_alloc ?_ _)); refine blk_put (cs := #[.int .i64 (wrap64 (t163)), .int .i64 (wrap64 (t166)), .bool t169, .string t172, .slice none 0 0, .int .u32 0, .int .u32 0, .int .u64 0, .int .u32 0, .int .u64 0, .int .u32 0, .string (⟨#[]⟩ : ByteArray), .int .u64 0, .int .u32 0]) ?_ 4 _ rfl; (with_reducible repeat (first | refine blk_drewN ?_ _ | refine blk_drew ?_ | refine blk_alloc ?_ _)); refine blk_put (cs := #[.int .i64 (wrap64 (t163)), .int .i64 (wrap64 (t166)), .bool t169, .string (⟨#[]⟩ : ByteArray), .slice none 0 0, .int .u32 0, .int .u32 0, .int .u64 0, .int .u32 0, .int .u64 0, .int .u32 0, .string (⟨#[]⟩ : ByteArray), .int .u64 0, .int .u32 0]) ?_ 3 _ rfl; (with_reducible repeat (first | refine blk_drewN ?_ _ | refine blk_drew ?_ | refine blk_alloc ?_ _)); refine blk_put (cs := #[.int .i64 (wrap64 (t163)), .int .i64 (wrap64 (t166)), .bool false, .string (⟨#[]⟩ : ByteArray), .slice none 0 0, .int .u32 0, .int .u32 0, .int .u64 0, .int .u32 0, .int .u64 0, .int .u32 0, .string (⟨#[]⟩ : ByteArray), .int .u64 0, .int .u32 0]) ?_ 2 _ rfl; (with_reducible repeat (first | refine blk_drewN ?_ _ | refine blk_drew ?_ | refine blk_alloc ?_ _)); refine blk_put (cs := #[.int .i64 (wrap64 (t163)), .int .i64 0, .bool false, .string (⟨#[]⟩ : ByteArray), .slice none 0 0, .int .u32 0, .int .u32 0, .int .u64 0, .int .u32 0, .int .u64 0, .int .u32 0, .string (⟨#[]⟩ : ByteArray), .int .u64 0, .int .u32 0]) ?_ 1 _ rfl; (with_reducible repeat (first | refine blk_drewN ?_ _ | refine blk_drew ?_ | refine blk_alloc ?_ _)); refine blk_put (cs := #[.int .i64 0, .int .i64 0, .bool false, .string (⟨#[]⟩ : ByteArray), .slice none 0 0, .int .u32 0, .int .u32 0, .int .u64 0, .int .u32 0, .int .u64 0, .int .u32 0, .string (⟨#[]⟩ : ByteArray), .int .u64 0, .int .u32 0]) ?_ 0 _ rfl; (with_reducible repeat (first | refine blk_drewN ?_ _ | refine blk_drew ?_ | refine blk_alloc ?_ _)); exact BK175.out) NB175_0.out (by simp)); have n2_ := Aside0.mk (KeepBut.trans (by repeat (first | (with_reducible first | exact HK.out | apply KeepBut.set_ | apply keep_drewN | apply keep_drew | apply keep_alloc | refine keep_far ?_ GW162.out _ | refine keep_far ?_ GW175.out _) | exact HK.out)) hk (.inl rfl)); have n3_ := Aside0.mk (hb); have n4_ := Aside0.mk (hi); clear BK162; clear BK175; clear HK; clear HB; clear HI0; have BK162 := n0_; have BK175 := n1_; have HK := n2_; have HB := n3_; have HI0 := n4_; clear n0_ n1_ n2_ n3_ n4_; (try clear hb); (try clear hb2); (try clear hk); (try clear hi)))
  go_loopg [17] k (fun kq v17 w' => ∃ (x17_1 : Int) (x1000_1 : ByteArray) (x1001_1 : Int) (x176004_1 : List (S68)) (u176004 : Value), v17 = .int .i64 x17_1 ∧ Aside0 (letter_readReply.l0 kq t176 x17_1 x1000_1 x1001_1 (wrap64 (t163)) (wrap64 (t166)) t169 t172 x176004_1 0 0 0 0 0 0 (⟨#[]⟩ : ByteArray) 0 0 = some (r1, r2, r3, r4, r5, r6, r7, r8, r9, r10, r11, r12, r13, r14, r15, r16)) ∧ Aside0 (kq ≤ k) ∧ Aside0 (Kd.R k68 68 w' w.heap.size (fun _ => True) u176004 x176004_1) ∧ Aside0 (w'.heap[gb162]? = some (.cells #[.int .i64 0, .int .i64 0, .bool false, .string (⟨#[]⟩ : ByteArray), (.slice none 0 0), .int .u32 0, .int .u32 0, .int .u64 0, .int .u32 0, .int .u64 0, .int .u32 0, .string (⟨#[]⟩ : ByteArray), .int .u64 0, .int .u32 0] 35 (0, 0))) ∧ Aside0 (w'.heap[gb175]? = some (.cells #[.int .i64 (wrap64 (t163)), .int .i64 (wrap64 (t166)), .bool t169, .string t172, u176004, .int .u32 0, .int .u32 0, .int .u64 0, .int .u32 0, .int .u64 0, .int .u32 0, .string (⟨#[]⟩ : ByteArray), .int .u64 0, .int .u32 0] 35 (0, 0))) ∧ Aside0 (IsS92 w0 w' g x1000_1 x1001_1) ∧ Aside0 (KeepBut w w' g none) ∧ Aside0 (Below w0.heap.size w0 w'))
  case atStart => exact ⟨(0), (t177), (t178), (([] : List (S68))), (.slice none 0 0), (by first | rfl | (simp; done) | (simp [*]; done)), H', ⟨Nat.le_refl _⟩, ⟨by first | exact Kd.R_nil _ _ _ _ _ | exact Kd.N_nil _ _ _ _ _ | exact Kd.V_nil _ _ _ _ _ | exact Kd.Q_nil _ _ _ _ _ | exact Kd.S_nil _ _ _ _ _⟩, ⟨by (with_reducible repeat (first | refine blk_drewN ?_ _ | refine blk_drew ?_ | refine blk_alloc ?_ _)); exact BK162.out⟩, ⟨by (with_reducible repeat (first | refine blk_drewN ?_ _ | refine blk_drew ?_ | refine blk_alloc ?_ _)); exact BK175.out⟩, ⟨by repeat (first | (with_reducible first | exact HI0.out | apply IsS92.alloc | apply IsS92.drewN | apply IsS92.drew | apply IsS92.set_0 | apply IsS92.set_1 | refine IsS92.far ?_ NB0_162.out _ | refine IsS92.far ?_ NB0_175.out _) | exact HI0.out)⟩, ⟨by repeat (first | (with_reducible first | exact HK.out | apply KeepBut.set_ | apply keep_drewN | apply keep_drew | apply keep_alloc | refine keep_far ?_ GW162.out _ | refine keep_far ?_ GW175.out _) | exact HK.out)⟩, ⟨by repeat (first | (with_reducible first | exact HB.out | apply below_alloc | apply pw_below_drewN | apply below_drew1 | refine below_set ?_ (IsS92.ge HI0.out) | refine below_set ?_ GE162.out | refine below_set ?_ GE175.out) | exact HB.out)⟩⟩
  case round =>
    clear H'
    try clear c1
    try clear c2
    try clear p2
    try clear c3
    try clear c5
    try clear p6
    try clear c13
    try clear c14
    try clear hcz15_0
    try clear hcz15_1
    try clear hcz15_10
    try clear hcz15_11
    try clear hcz15_12
    try clear hcz15_13
    try clear hcz15_2
    try clear hcz15_3
    try clear hcz15_4
    try clear hcz15_5
    try clear hcz15_6
    try clear hcz15_7
    try clear hcz15_8
    try clear hcz15_9
    try clear hfz15_0
    try clear hfz15_1
    try clear hfz15_10
    try clear hfz15_11
    try clear hfz15_12
    try clear hfz15_13
    try clear hfz15_2
    try clear hfz15_3
    try clear hfz15_4
    try clear hfz15_5
    try clear hfz15_6
    try clear hfz15_7
    try clear hfz15_8
    try clear hfz15_9
    obtain ⟨x17_1, x1000_1, x1001_1, x176004_1, u176004, rfl, HA, HK1, HO_176004, BK162, BK175, HI0, HK, HB⟩ := hrel
    cases gk with
    | zero => exact absurd HA.out (by simp [letter_readReply.l0])
    | succ k1 =>
      have H := HA.out
      clear HA
      simp only [letter_readReply.l0] at H
      by_cases c17 : x17_1 < t176
      · rw [if_pos c17] at H
        have c17b0 : decide (x17_1 < t176) = true := decide_eq_true c17
        clear c17
        replace H := Option.bind_eq_some_iff.mp H
        obtain ⟨⟨t179, t180, t181⟩, A180, H⟩ := H
        replace H : ((pack_Reader_Text.f k1 t180 t181 0 256).bind fun bt182 => (if x176004_1.length < 4398046511104 then (letter_readReply.l0 k1 t176 (wrap64 (x17_1 + 1)) bt182.2.1 bt182.2.2 (wrap64 (t163)) (wrap64 (t166)) t169 t172 (x176004_1 ++ [(⟨t179, bt182.1⟩ : S68)]) 0 0 0 0 0 0 (⟨#[]⟩ : ByteArray) 0 0) else (none))) = some (r1, r2, r3, r4, r5, r6, r7, r8, r9, r10, r11, r12, r13, r14, r15, r16) := H
        have A18 := Aside0.mk A180
        clear A180
        replace H := Option.bind_eq_some_iff.mp H
        obtain ⟨⟨t182, t183, t184⟩, A190, H⟩ := H
        replace H : (if x176004_1.length < 4398046511104 then (letter_readReply.l0 k1 t176 (wrap64 (x17_1 + 1)) t183 t184 (wrap64 (t163)) (wrap64 (t166)) t169 t172 (x176004_1 ++ [(⟨t179, t182⟩ : S68)]) 0 0 0 0 0 0 (⟨#[]⟩ : ByteArray) 0 0) else (none)) = some (r1, r2, r3, r4, r5, r6, r7, r8, r9, r10, r11, r12, r13, r14, r15, r16) := H
        have A19 := Aside0.mk A190
        clear A190
        by_cases c20 : x176004_1.length < 4398046511104
        · rw [if_pos c20] at H
          have LMc20 := Aside0.mk c20
          clear c20
          obtain ⟨y185, hy185⟩ : ∃ y_ : List (S68), y_ = (x176004_1 ++ [(⟨t179, t182⟩ : S68)]) := ⟨_, rfl⟩
          replace H : (letter_readReply.l0 k1 t176 (wrap64 (x17_1 + 1)) t183 t184 (wrap64 (t163)) (wrap64 (t166)) t169 t172 y185 0 0 0 0 0 0 (⟨#[]⟩ : ByteArray) 0 0) = some (r1, r2, r3, r4, r5, r6, r7, r8, r9, r10, r11, r12, r13, r14, r15, r16) := by first | (rw [hy185]; with_reducible exact H) | (have H2_ := (Option.bind_some _ _).symm.trans H; rw [hy185]; with_reducible exact H2_) | (have H2_ := (Option.bind_some _ _).symm.trans H; with_reducible exact H2_) | with_reducible exact H | (rw [hy185]; exact H) | exact H
          have Ny185 := Aside0.mk hy185
          clear hy185
          have H' := Aside0.mk H
          clear H
          try go_wp2
          have n0_ := Aside0.mk (Kd.R_drew HO_176004.out)
          have n1_ := Aside0.mk (blk_drew BK162.out)
          have n2_ := Aside0.mk (blk_drew BK175.out)
          have n3_ := Aside0.mk (IsS92.drew HI0.out)
          have n4_ := Aside0.mk (keep_drew HK.out)
          have n5_ := Aside0.mk (below_drew1 HB.out)
          clear HO_176004
          clear BK162
          clear BK175
          clear HI0
          clear HK
          clear HB
          have HO_176004 := n0_
          have BK162 := n1_
          have BK175 := n2_
          have HI0 := n3_
          have HK := n4_
          have HB := n5_
          clear n0_ n1_ n2_ n3_ n4_ n5_
          refine start_ (n := 11) (S := fun w' => w'.cell? ⟨gb175, 0, none⟩ = some (.int .i64 (wrap64 (t163))) ∧ w'.cell? ⟨gb175, 1, none⟩ = some (.int .i64 (wrap64 (t166))) ∧ w'.cell? ⟨gb175, 2, none⟩ = some (.bool t169) ∧ w'.cell? ⟨gb175, 3, none⟩ = some (.string t172) ∧ w'.cell? ⟨gb175, 4, none⟩ = some (u176004) ∧ w'.cell? ⟨gb175, 5, none⟩ = some (.int .u32 0) ∧ w'.cell? ⟨gb175, 6, none⟩ = some (.int .u32 0) ∧ w'.cell? ⟨gb175, 7, none⟩ = some (.int .u64 0) ∧ w'.cell? ⟨gb175, 8, none⟩ = some (.int .u32 0) ∧ w'.cell? ⟨gb175, 9, none⟩ = some (.int .u64 0) ∧ w'.cell? ⟨gb175, 10, none⟩ = some (.int .u32 0) ∧ w'.cell? ⟨gb175, 11, none⟩ = some (.string (⟨#[]⟩ : ByteArray)) ∧ w'.cell? ⟨gb175, 12, none⟩ = some (.int .u64 0) ∧ w'.cell? ⟨gb175, 13, none⟩ = some (.int .u32 0)) (ds := [10]) #[false, false, false, false, false, false, false, false, false, false, false] (by kernel_rfl) rfl rfl ⟨(blk_cell BK175.out 0).trans rfl, (blk_cell BK175.out 1).trans rfl, (blk_cell BK175.out 2).trans rfl, (blk_cell BK175.out 3).trans rfl, (blk_cell BK175.out 4).trans rfl, (blk_cell BK175.out 5).trans rfl, (blk_cell BK175.out 6).trans rfl, (blk_cell BK175.out 7).trans rfl, (blk_cell BK175.out 8).trans rfl, (blk_cell BK175.out 9).trans rfl, (blk_cell BK175.out 10).trans rfl, (blk_cell BK175.out 11).trans rfl, (blk_cell BK175.out 12).trans rfl, (blk_cell BK175.out 13).trans rfl⟩ (fun hHeld => ?_); refine with_tabW letter_readReply.tab4 letter_readReply.bits4 (fun HT_ HW_ => ?_)
          generalize wr.drew = w21 at HO_176004 BK162 BK175 HI0 HK HB hHeld ⊢
          refine pure_ (i := 0) (N := some 19) (v := ?_) (a' := ?_) #[true, false, false, false, false, false, false, false, false, false, false] rfl rfl (any_of HT_.out (by kernel_rfl)) (fun _ _ _ h => h) (Or.inl ⟨by rfl, ?_⟩) ?_ ?_
          rotate_left
          · intro w'
            go_simp
            with_reducible rfl
          rotate_left
          · simp only [Act.put, List.setIfInBounds_toArray, List.set_cons_zero, List.set_cons_succ, i64_w, i32_w]
            rfl
          refine pure_ (i := 2) (N := some 21) (v := ?_) (a' := ?_) #[true, false, true, false, false, false, false, false, false, false, false] rfl rfl (any_of HT_.out (by kernel_rfl)) (fun _ _ _ h => h) (Or.inl ⟨by rfl, ?_⟩) ?_ ?_
          rotate_left
          · intro w'
            go_simp
            with_reducible rfl
          rotate_left
          · simp only [Act.put, List.setIfInBounds_toArray, List.set_cons_zero, List.set_cons_succ, i64_w, i32_w]
            rfl
          refine pure_ (i := 4) (N := some 23) (v := ?_) (a' := ?_) #[true, false, true, false, true, false, false, false, false, false, false] rfl rfl (any_of HT_.out (by kernel_rfl)) (fun _ _ _ h => h) (Or.inl ⟨by rfl, ?_⟩) ?_ ?_
          rotate_left
          · intro w'
            go_simp
            with_reducible rfl
          rotate_left
          · simp only [Act.put, List.setIfInBounds_toArray, List.set_cons_zero, List.set_cons_succ, i64_w, i32_w]
            rfl
          refine take_ (i := 1) (N := some 20) (v := ?_) (a' := ?_) #[true, true, true, false, true, false, false, false, false, false, false] rfl rfl (take_ofW HT_.out HW_.out (by kernel_rfl)) (fun _ _ _ h => h) (Or.inl ⟨by rfl, ?_⟩) hHeld ?_ ?_
          rotate_left
          · rintro w' ⟨s0, s1, s2, s3, s4, s5, s6, s7, s8, s9, s10, s11, s12, s13⟩
            go_simp
            with_reducible rfl
          rotate_left
          · simp only [Act.put, List.setIfInBounds_toArray, List.set_cons_zero, List.set_cons_succ, i64_w, i32_w]
            rfl
          refine one_ (i := 3) (N := some 22) #[true, true, true, true, true, false, false, false, false, false, false] rfl rfl (one_of HT_.out (by kernel_rfl)) (by decide) (fun K hK => ?_)
          refine goes_ Try.func52 (by kernel_rfl) rfl #[.pointer (some ⟨g, 0, none⟩), .int .i64 0, .int .i64 32] (by rfl) rfl rfl (by (try simp only [List.map_toArray, List.map_cons, List.map_nil]); first | done | rfl | (simp only [List.length_drop, List.length_take]; rfl)) ?_
          with_reducible refine (pack_Reader_Text.calls k1 g x1000_1 x1001_1 0 32 t179 t180 t181 w0 _ ?side1 ?side2 A18.out).mono ?_
          (case side1 => repeat (first | (with_reducible first | exact HI0.out | apply IsS92.alloc | apply IsS92.drewN | apply IsS92.drew | apply IsS92.set_0 | apply IsS92.set_1 | refine IsS92.far ?_ NB0_162.out _ | refine IsS92.far ?_ NB0_175.out _) | exact HI0.out))
          (case side2 => repeat (first | (with_reducible first | exact HB.out | apply below_alloc | apply pw_below_drewN | apply below_drew1 | refine below_set ?_ (IsS92.ge HI0.out) | refine below_set ?_ GE162.out | refine below_set ?_ GE175.out) | exact HB.out))
          rintro e w22 ⟨rfl, hi, hb, hk⟩
          refine ⟨_, rfl, ?_⟩
          have n0_ := Aside0.mk (Kd.R_mono (Kd.R_keep (IsS92.apart (show IsS92 w0 _ g x1000_1 x1001_1 from by repeat (first | (with_reducible first | exact HI0.out | apply IsS92.alloc | apply IsS92.drewN | apply IsS92.drew | apply IsS92.set_0 | apply IsS92.set_1 | refine IsS92.far ?_ NB0_162.out _ | refine IsS92.far ?_ NB0_175.out _) | exact HI0.out)) (by (with_reducible repeat (first | apply Kd.R_alloc | apply Kd.R_drewN | apply Kd.R_drew)); exact HO_176004.out) (by decide)) hk (fun _ h => h.2)) (fun _ h => h.1))
          have n1_ := Aside0.mk (KeepBut.blk hk (g' := gb162) (o := .cells #[.int .i64 0, .int .i64 0, .bool false, .string (⟨#[]⟩ : ByteArray), .slice none 0 0, .int .u32 0, .int .u32 0, .int .u64 0, .int .u32 0, .int .u64 0, .int .u32 0, .string (⟨#[]⟩ : ByteArray), .int .u64 0, .int .u32 0] 35 (0, 0)) (by (with_reducible repeat (first | refine blk_drewN ?_ _ | refine blk_drew ?_ | refine blk_alloc ?_ _)); exact BK162.out) NB162_0.out (by simp))
          have n2_ := Aside0.mk (KeepBut.blk hk (g' := gb175) (o := .cells #[.int .i64 (wrap64 (t163)), .int .i64 (wrap64 (t166)), .bool t169, .string t172, u176004, .int .u32 0, .int .u32 0, .int .u64 0, .int .u32 0, .int .u64 0, .int .u32 0, .string (⟨#[]⟩ : ByteArray), .int .u64 0, .int .u32 0] 35 (0, 0)) (by (with_reducible repeat (first | refine blk_drewN ?_ _ | refine blk_drew ?_ | refine blk_alloc ?_ _)); exact BK175.out) NB175_0.out (by simp))
          have n3_ := Aside0.mk (KeepBut.trans (by repeat (first | (with_reducible first | exact HK.out | apply KeepBut.set_ | apply keep_drewN | apply keep_drew | apply keep_alloc | refine keep_far ?_ GW162.out _ | refine keep_far ?_ GW175.out _) | exact HK.out)) hk (.inl rfl))
          have n4_ := Aside0.mk (hb)
          have n5_ := Aside0.mk (hi)
          clear HO_176004
          clear BK162
          clear BK175
          clear HK
          clear HB
          clear HI0
          have HO_176004 := n0_
          have BK162 := n1_
          have BK175 := n2_
          have HK := n3_
          have HB := n4_
          have HI0 := n5_
          clear n0_ n1_ n2_ n3_ n4_ n5_
          (try clear hb)
          (try clear hb2)
          (try clear hk)
          (try clear hi)
          refine hK.out _ _ ⟨(blk_cell BK175.out 0).trans rfl, (blk_cell BK175.out 1).trans rfl, (blk_cell BK175.out 2).trans rfl, (blk_cell BK175.out 3).trans rfl, (blk_cell BK175.out 4).trans rfl, (blk_cell BK175.out 5).trans rfl, (blk_cell BK175.out 6).trans rfl, (blk_cell BK175.out 7).trans rfl, (blk_cell BK175.out 8).trans rfl, (blk_cell BK175.out 9).trans rfl, (blk_cell BK175.out 10).trans rfl, (blk_cell BK175.out 11).trans rfl, (blk_cell BK175.out 12).trans rfl, (blk_cell BK175.out 13).trans rfl⟩ (fun hHeld => ?_)
          clear hK K
          refine norm_ (a' := ?_) ?_ ?_
          rotate_left
          · show Act.put _ (some 22) _ = _
            simp only [Act.put, List.setIfInBounds_toArray, List.set_cons_zero, List.set_cons_succ, i64_w, i32_w]
            rfl
          refine one_ (i := 5) (N := some 24) #[true, true, true, true, true, true, false, false, false, false, false] rfl rfl (one_of HT_.out (by kernel_rfl)) (by decide) (fun K hK => ?_)
          refine goes_ Try.func52 (by kernel_rfl) rfl #[.pointer (some ⟨g, 0, none⟩), .int .i64 0, .int .i64 256] (by rfl) rfl rfl (by (try simp only [List.map_toArray, List.map_cons, List.map_nil]); first | done | rfl | (simp only [List.length_drop, List.length_take]; rfl)) ?_
          with_reducible refine (pack_Reader_Text.calls k1 g t180 t181 0 256 t182 t183 t184 w0 _ ?side1 ?side2 A19.out).mono ?_
          (case side1 => repeat (first | (with_reducible first | exact HI0.out | apply IsS92.alloc | apply IsS92.drewN | apply IsS92.drew | apply IsS92.set_0 | apply IsS92.set_1 | refine IsS92.far ?_ NB0_162.out _ | refine IsS92.far ?_ NB0_175.out _) | exact HI0.out))
          (case side2 => repeat (first | (with_reducible first | exact HB.out | apply below_alloc | apply pw_below_drewN | apply below_drew1 | refine below_set ?_ (IsS92.ge HI0.out) | refine below_set ?_ GE162.out | refine below_set ?_ GE175.out) | exact HB.out))
          rintro e w23 ⟨rfl, hi, hb, hk⟩
          refine ⟨_, rfl, ?_⟩
          have n0_ := Aside0.mk (Kd.R_mono (Kd.R_keep (IsS92.apart (show IsS92 w0 _ g t180 t181 from by repeat (first | (with_reducible first | exact HI0.out | apply IsS92.alloc | apply IsS92.drewN | apply IsS92.drew | apply IsS92.set_0 | apply IsS92.set_1 | refine IsS92.far ?_ NB0_162.out _ | refine IsS92.far ?_ NB0_175.out _) | exact HI0.out)) (by (with_reducible repeat (first | apply Kd.R_alloc | apply Kd.R_drewN | apply Kd.R_drew)); exact HO_176004.out) (by decide)) hk (fun _ h => h.2)) (fun _ h => h.1))
          have n1_ := Aside0.mk (KeepBut.blk hk (g' := gb162) (o := .cells #[.int .i64 0, .int .i64 0, .bool false, .string (⟨#[]⟩ : ByteArray), .slice none 0 0, .int .u32 0, .int .u32 0, .int .u64 0, .int .u32 0, .int .u64 0, .int .u32 0, .string (⟨#[]⟩ : ByteArray), .int .u64 0, .int .u32 0] 35 (0, 0)) (by (with_reducible repeat (first | refine blk_drewN ?_ _ | refine blk_drew ?_ | refine blk_alloc ?_ _)); exact BK162.out) NB162_0.out (by simp))
          have n2_ := Aside0.mk (KeepBut.blk hk (g' := gb175) (o := .cells #[.int .i64 (wrap64 (t163)), .int .i64 (wrap64 (t166)), .bool t169, .string t172, u176004, .int .u32 0, .int .u32 0, .int .u64 0, .int .u32 0, .int .u64 0, .int .u32 0, .string (⟨#[]⟩ : ByteArray), .int .u64 0, .int .u32 0] 35 (0, 0)) (by (with_reducible repeat (first | refine blk_drewN ?_ _ | refine blk_drew ?_ | refine blk_alloc ?_ _)); exact BK175.out) NB175_0.out (by simp))
          have n3_ := Aside0.mk (KeepBut.trans (by repeat (first | (with_reducible first | exact HK.out | apply KeepBut.set_ | apply keep_drewN | apply keep_drew | apply keep_alloc | refine keep_far ?_ GW162.out _ | refine keep_far ?_ GW175.out _) | exact HK.out)) hk (.inl rfl))
          have n4_ := Aside0.mk (hb)
          have n5_ := Aside0.mk (hi)
          clear HO_176004
          clear BK162
          clear BK175
          clear HK
          clear HB
          clear HI0
          have HO_176004 := n0_
          have BK162 := n1_
          have BK175 := n2_
          have HK := n3_
          have HB := n4_
          have HI0 := n5_
          clear n0_ n1_ n2_ n3_ n4_ n5_
          (try clear hb)
          (try clear hb2)
          (try clear hk)
          (try clear hi)
          refine hK.out _ _ ⟨(blk_cell BK175.out 0).trans rfl, (blk_cell BK175.out 1).trans rfl, (blk_cell BK175.out 2).trans rfl, (blk_cell BK175.out 3).trans rfl, (blk_cell BK175.out 4).trans rfl, (blk_cell BK175.out 5).trans rfl, (blk_cell BK175.out 6).trans rfl, (blk_cell BK175.out 7).trans rfl, (blk_cell BK175.out 8).trans rfl, (blk_cell BK175.out 9).trans rfl, (blk_cell BK175.out 10).trans rfl, (blk_cell BK175.out 11).trans rfl, (blk_cell BK175.out 12).trans rfl, (blk_cell BK175.out 13).trans rfl⟩ (fun hHeld => ?_)
          clear hK K
          refine norm_ (a' := ?_) ?_ ?_
          rotate_left
          · show Act.put _ (some 24) _ = _
            simp only [Act.put, List.setIfInBounds_toArray, List.set_cons_zero, List.set_cons_succ, i64_w, i32_w]
            rfl
          refine pure_ (i := 6) (N := some 25) (v := ?_) (a' := ?_) #[true, true, true, true, true, true, true, false, false, false, false] rfl rfl (any_of HT_.out (by kernel_rfl)) (fun _ _ _ h => h) (Or.inl ⟨by rfl, ?_⟩) ?_ ?_
          rotate_left
          · intro w'
            go_simp
            with_reducible rfl
          rotate_left
          · simp only [Act.put, List.setIfInBounds_toArray, List.set_cons_zero, List.set_cons_succ, i64_w, i32_w]
            rfl
          refine one_ (i := 7) (N := some 26) #[true, true, true, true, true, true, true, true, false, false, false] rfl rfl (one_of HT_.out (by kernel_rfl)) (by decide) (fun K hK => ?_)
          refine value_ (w1 := ?_) (v := ?_) (by rfl) rfl ?_ ?_
          rotate_left 2
          · go_simp
            constructor
            · rfl
            · rfl
          refine hK.out _ _ ⟨(blk_cell (blk_alloc BK175.out _) 0).trans rfl, (blk_cell (blk_alloc BK175.out _) 1).trans rfl, (blk_cell (blk_alloc BK175.out _) 2).trans rfl, (blk_cell (blk_alloc BK175.out _) 3).trans rfl, (blk_cell (blk_alloc BK175.out _) 4).trans rfl, (blk_cell (blk_alloc BK175.out _) 5).trans rfl, (blk_cell (blk_alloc BK175.out _) 6).trans rfl, (blk_cell (blk_alloc BK175.out _) 7).trans rfl, (blk_cell (blk_alloc BK175.out _) 8).trans rfl, (blk_cell (blk_alloc BK175.out _) 9).trans rfl, (blk_cell (blk_alloc BK175.out _) 10).trans rfl, (blk_cell (blk_alloc BK175.out _) 11).trans rfl, (blk_cell (blk_alloc BK175.out _) 12).trans rfl, (blk_cell (blk_alloc BK175.out _) 13).trans rfl⟩ (fun hHeld => ?_)
          clear hK K
          refine norm_ (a' := ?_) ?_ ?_
          rotate_left
          · show Act.put _ (some 26) _ = _
            simp only [Act.put, List.setIfInBounds_toArray, List.set_cons_zero, List.set_cons_succ, i64_w, i32_w]
            rfl
          refine one_ (i := 8) (N := some 27) #[true, true, true, true, true, true, true, true, true, false, false] rfl rfl (one_of HT_.out (by kernel_rfl)) (by decide) (fun K hK => ?_)
          refine Kd.R_append_step k68 w.heap.size (by rfl) (.tmp 20) (.tmp 26) 33 68 (.agg #[(.string ⟨#[]⟩), (.string ⟨#[]⟩)]) 32 rfl Try.underlying33 info68 rfl (by decide) (by omega) u176004 x176004_1 (⟨t179, t182⟩ : S68) [.string t179, .string t182] (fun _ => True) (fun _ => False) rfl rfl ?aP (fun _ hk => hk.elim) ?aF ?aO (Below.refl _ _) ?aS ?aL ?_
          (case aP => exact k68_mkM _ _ _ (⟨t179, t182⟩ : S68))
          (case aF => exact (fun _ _ => trivial))
          (case aO => exact (by (with_reducible repeat (first | apply Kd.R_alloc | apply Kd.R_drewN | apply Kd.R_drew)); exact HO_176004.out))
          (case aS => exact (keep_size (w := w) (g := g) (row := none) (by repeat (first | (with_reducible first | exact HK.out | apply KeepBut.set_ | apply keep_drewN | apply keep_drew | apply keep_alloc | refine keep_far ?_ GW162.out _ | refine keep_far ?_ GW175.out _) | exact HK.out))))
          (case aL => have := LMc20.out; omega)
          intro v186 w24 ho hb hg hat
          rw [← Ny185.out] at ho
          have n0_ := Aside0.mk (blk_grown (g := gb162) (o := .cells #[.int .i64 0, .int .i64 0, .bool false, .string (⟨#[]⟩ : ByteArray), .slice none 0 0, .int .u32 0, .int .u32 0, .int .u64 0, .int .u32 0, .int .u64 0, .int .u32 0, .string (⟨#[]⟩ : ByteArray), .int .u64 0, .int .u32 0] 35 (0, 0)) (by (with_reducible repeat (first | refine blk_drewN ?_ _ | refine blk_drew ?_ | refine blk_alloc ?_ _)); exact BK162.out) hg (Kd.R_ne HO_176004.out BK162.out (by decide)))
          have n1_ := Aside0.mk (blk_grown (g := gb175) (o := .cells #[.int .i64 (wrap64 (t163)), .int .i64 (wrap64 (t166)), .bool t169, .string t172, u176004, .int .u32 0, .int .u32 0, .int .u64 0, .int .u32 0, .int .u64 0, .int .u32 0, .string (⟨#[]⟩ : ByteArray), .int .u64 0, .int .u32 0] 35 (0, 0)) (by (with_reducible repeat (first | refine blk_drewN ?_ _ | refine blk_drew ?_ | refine blk_alloc ?_ _)); exact BK175.out) hg (Kd.R_ne HO_176004.out BK175.out (by decide)))
          have n2_ := Aside0.mk (IsS92.grown (by repeat (first | (with_reducible first | exact HI0.out | apply IsS92.alloc | apply IsS92.drewN | apply IsS92.drew | apply IsS92.set_0 | apply IsS92.set_1 | refine IsS92.far ?_ NB0_162.out _ | refine IsS92.far ?_ NB0_175.out _) | exact HI0.out)) hg (IsS92.own_ne HI0.out HO_176004.out (by decide)))
          have n3_ := Aside0.mk (below_weaken (by repeat (first | (with_reducible first | exact HB.out | apply below_alloc | apply pw_below_drewN | apply below_drew1 | refine below_set ?_ (IsS92.ge HI0.out) | refine below_set ?_ GE162.out | refine below_set ?_ GE175.out) | exact HB.out)) HL.out hb)
          have n4_ := Aside0.mk (KeepBut.trans (by repeat (first | (with_reducible first | exact HK.out | apply KeepBut.set_ | apply keep_drewN | apply keep_drew | apply keep_alloc | refine keep_far ?_ GW162.out _ | refine keep_far ?_ GW175.out _) | exact HK.out)) (KeepBut.of_grown hg g) (Kd.R_base2 HO_176004.out))
          have n5_ := Aside0.mk (ho)
          clear BK162
          clear BK175
          clear HI0
          clear HB
          clear HK
          clear HO_176004
          have BK162 := n0_
          have BK175 := n1_
          have HI0 := n2_
          have HB := n3_
          have HK := n4_
          have HO187 := n5_
          clear n0_ n1_ n2_ n3_ n4_ n5_
          clear ho hb hg hat
          obtain ⟨Ao25, co25, eo25⟩ := Kd.R_slice HO187.out
          (first | subst eo25 | (injection eo25 with f1_ f2_ f3_; have f4_ := f1_.symm; have f5_ := f3_.symm; clear f1_ f2_ f3_; subst f4_; subst f5_))
          refine hK.out _ _ ⟨(blk_cell BK175.out 0).trans rfl, (blk_cell BK175.out 1).trans rfl, (blk_cell BK175.out 2).trans rfl, (blk_cell BK175.out 3).trans rfl, (blk_cell BK175.out 4).trans rfl, (blk_cell BK175.out 5).trans rfl, (blk_cell BK175.out 6).trans rfl, (blk_cell BK175.out 7).trans rfl, (blk_cell BK175.out 8).trans rfl, (blk_cell BK175.out 9).trans rfl, (blk_cell BK175.out 10).trans rfl, (blk_cell BK175.out 11).trans rfl, (blk_cell BK175.out 12).trans rfl, (blk_cell BK175.out 13).trans rfl⟩ (fun hHeld => ?_)
          clear hK K
          refine norm_ (a' := ?_) ?_ ?_
          rotate_left
          · show Act.put _ (some 27) _ = _
            simp only [Act.put, List.setIfInBounds_toArray, List.set_cons_zero, List.set_cons_succ, i64_w, i32_w]
            rfl
          refine pure_ (i := 9) (N := some 28) (v := ?_) (a' := ?_) #[true, true, true, true, true, true, true, true, true, true, false] rfl rfl (any_of HT_.out (by kernel_rfl)) (fun _ _ _ h => h) (Or.inl ⟨by rfl, ?_⟩) ?_ ?_
          rotate_left
          · intro w'
            go_simp
            with_reducible rfl
          rotate_left
          · simp only [Act.put, List.setIfInBounds_toArray, List.set_cons_zero, List.set_cons_succ, i64_w, i32_w]
            rfl
          refine last_ (i := 10) (N := none) #[true, true, true, true, true, true, true, true, true, true, true] rfl rfl (one_of HT_.out (by kernel_rfl)) (by decide) (fun K hK => ?_)
          have hs26 : w24.cell? ⟨gb175, 4, none⟩ = some (u176004) := (blk_cell BK175.out 4).trans rfl
          have hfs26 := blk_frozen BK175.out 4
          have hns26_0 := NB162_175.out
          have hms26_0 := NB175_162.out
          refine skip_ (w1 := ?_) (by rfl) rfl ?_ ?_
          rotate_left
          · go_simp
            rfl
          refine hK.out _ _ ?_
          clear hK K
          refine done_ (done_of HT_.out (by kernel_rfl)) ?_
          try go_wp2
          go_roundg k1
          case measure => have := HK1.out; omega
          case rel => exact ⟨(wrap64 (x17_1 + 1)), (t183), (t184), (y185), (.slice Ao25 y185.length co25), (by first | rfl | (simp; done) | (simp [*]; done)), H', ⟨by have := HK1.out; omega⟩, ⟨by (with_reducible repeat (first | apply Kd.R_alloc | apply Kd.R_drewN | apply Kd.R_drew)); exact Kd.R_mono (Kd.R_far (p := ⟨gb175, 4, none⟩) (Kd.R_types HO187.out BK175.out (by decide)) (fun _ hk => hk.2) (.slice Ao25 y185.length co25)) (fun _ hk => trivial)⟩, ⟨by (with_reducible repeat (first | refine blk_drewN ?_ _ | refine blk_drew ?_ | refine blk_alloc ?_ _)); refine blk_far ?_ NB162_175.out _; (with_reducible repeat (first | refine blk_drewN ?_ _ | refine blk_drew ?_ | refine blk_alloc ?_ _)); exact BK162.out⟩, ⟨by (with_reducible repeat (first | refine blk_drewN ?_ _ | refine blk_drew ?_ | refine blk_alloc ?_ _)); refine blk_put (cs := #[.int .i64 (wrap64 (t163)), .int .i64 (wrap64 (t166)), .bool t169, .string t172, u176004, .int .u32 0, .int .u32 0, .int .u64 0, .int .u32 0, .int .u64 0, .int .u32 0, .string (⟨#[]⟩ : ByteArray), .int .u64 0, .int .u32 0]) ?_ 4 _ rfl; (with_reducible repeat (first | refine blk_drewN ?_ _ | refine blk_drew ?_ | refine blk_alloc ?_ _)); exact BK175.out⟩, ⟨by repeat (first | (with_reducible first | exact HI0.out | apply IsS92.alloc | apply IsS92.drewN | apply IsS92.drew | apply IsS92.set_0 | apply IsS92.set_1 | refine IsS92.far ?_ NB0_162.out _ | refine IsS92.far ?_ NB0_175.out _) | exact HI0.out)⟩, ⟨by repeat (first | (with_reducible first | exact HK.out | apply KeepBut.set_ | apply keep_drewN | apply keep_drew | apply keep_alloc | refine keep_far ?_ GW162.out _ | refine keep_far ?_ GW175.out _) | exact HK.out)⟩, ⟨by repeat (first | (with_reducible first | exact HB.out | apply below_alloc | apply pw_below_drewN | apply below_drew1 | refine below_set ?_ (IsS92.ge HI0.out) | refine below_set ?_ GE162.out | refine below_set ?_ GE175.out) | exact HB.out)⟩⟩
        · rw [if_neg c20] at H
          exact absurd H (by simp)
      · rw [if_neg c17] at H
        have c17b0 : decide (x17_1 < t176) = false := decide_eq_false c17
        clear c17
        replace H := Option.bind_eq_some_iff.mp H
        obtain ⟨⟨t188, t189, t190, t191⟩, A270, H⟩ := H
        replace H : ((pack_Reader_Stamp.f t190 t191).bind fun bt192 => ((pack_Reader_Stamp.f bt192.2.2.1 bt192.2.2.2).bind fun bt196 => ((pack_Reader_Text.f k1 bt196.2.2.1 bt196.2.2.2 0 32).bind fun bt200 => ((pack_Reader_Stamp.f bt200.2.1 bt200.2.2).bind fun bt203 => (some ((wrap64 (t163)), (wrap64 (t166)), t169, t172, x176004_1, t188, t189, bt192.1, bt192.2.1, bt196.1, bt196.2.1, bt200.1, bt203.1, bt203.2.1, bt203.2.2.1, bt203.2.2.2)))))) = some (r1, r2, r3, r4, r5, r6, r7, r8, r9, r10, r11, r12, r13, r14, r15, r16) := H
        have A27 := Aside0.mk A270
        clear A270
        replace H := Option.bind_eq_some_iff.mp H
        obtain ⟨⟨t192, t193, t194, t195⟩, A280, H⟩ := H
        replace H : ((pack_Reader_Stamp.f t194 t195).bind fun bt196 => ((pack_Reader_Text.f k1 bt196.2.2.1 bt196.2.2.2 0 32).bind fun bt200 => ((pack_Reader_Stamp.f bt200.2.1 bt200.2.2).bind fun bt203 => (some ((wrap64 (t163)), (wrap64 (t166)), t169, t172, x176004_1, t188, t189, t192, t193, bt196.1, bt196.2.1, bt200.1, bt203.1, bt203.2.1, bt203.2.2.1, bt203.2.2.2))))) = some (r1, r2, r3, r4, r5, r6, r7, r8, r9, r10, r11, r12, r13, r14, r15, r16) := H
        have A28 := Aside0.mk A280
        clear A280
        replace H := Option.bind_eq_some_iff.mp H
        obtain ⟨⟨t196, t197, t198, t199⟩, A290, H⟩ := H
        replace H : ((pack_Reader_Text.f k1 t198 t199 0 32).bind fun bt200 => ((pack_Reader_Stamp.f bt200.2.1 bt200.2.2).bind fun bt203 => (some ((wrap64 (t163)), (wrap64 (t166)), t169, t172, x176004_1, t188, t189, t192, t193, t196, t197, bt200.1, bt203.1, bt203.2.1, bt203.2.2.1, bt203.2.2.2)))) = some (r1, r2, r3, r4, r5, r6, r7, r8, r9, r10, r11, r12, r13, r14, r15, r16) := H
        have A29 := Aside0.mk A290
        clear A290
        replace H := Option.bind_eq_some_iff.mp H
        obtain ⟨⟨t200, t201, t202⟩, A300, H⟩ := H
        replace H : ((pack_Reader_Stamp.f t201 t202).bind fun bt203 => (some ((wrap64 (t163)), (wrap64 (t166)), t169, t172, x176004_1, t188, t189, t192, t193, t196, t197, t200, bt203.1, bt203.2.1, bt203.2.2.1, bt203.2.2.2))) = some (r1, r2, r3, r4, r5, r6, r7, r8, r9, r10, r11, r12, r13, r14, r15, r16) := H
        have A30 := Aside0.mk A300
        clear A300
        replace H := Option.bind_eq_some_iff.mp H
        obtain ⟨⟨t203, t204, t205, t206⟩, A310, H⟩ := H
        replace H : (some ((wrap64 (t163)), (wrap64 (t166)), t169, t172, x176004_1, t188, t189, t192, t193, t196, t197, t200, t203, t204, t205, t206)) = some (r1, r2, r3, r4, r5, r6, r7, r8, r9, r10, r11, r12, r13, r14, r15, r16) := H
        have A31 := Aside0.mk A310
        clear A310
        simp only [Option.some.injEq, Prod.mk.injEq] at H
        obtain ⟨rfl, rfl, rfl, rfl, rfl, rfl, rfl, rfl, rfl, rfl, rfl, rfl, rfl, rfl, rfl, rfl⟩ := H
        go_wp2_with (first | ((with_reducible refine gate_callee (f := 54) rfl ?_); refine goesL_ (some 31) rfl rfl Try.func54 (by kernel_rfl) rfl #[.pointer (some ⟨g, 0, none⟩)] rfl (by (try simp only [List.map_toArray, List.map_cons, List.map_nil]); first | done | rfl | (simp only [List.length_drop, List.length_take]; rfl)) ?_; (with_reducible refine (letter_txn.calls g x1000_1 x1001_1 t188 t189 t190 t191 w0 _ ?side1 ?side2 A27.out).mono ?_); (case side1 => repeat (first | (with_reducible first | exact HI0.out | apply IsS92.alloc | apply IsS92.drewN | apply IsS92.drew | apply IsS92.set_0 | apply IsS92.set_1 | refine IsS92.far ?_ NB0_162.out _ | refine IsS92.far ?_ NB0_175.out _) | exact HI0.out)); (case side2 => repeat (first | (with_reducible first | exact HB.out | apply below_alloc | apply pw_below_drewN | apply below_drew1 | refine below_set ?_ (IsS92.ge HI0.out) | refine below_set ?_ GE162.out | refine below_set ?_ GE175.out) | exact HB.out)); rintro e w32 ⟨rfl, hi, hb, hk⟩; refine ⟨_, rfl, ?_⟩; have n0_ := Aside0.mk (Kd.R_mono (Kd.R_keep (IsS92.apart (show IsS92 w0 _ g x1000_1 x1001_1 from by repeat (first | (with_reducible first | exact HI0.out | apply IsS92.alloc | apply IsS92.drewN | apply IsS92.drew | apply IsS92.set_0 | apply IsS92.set_1 | refine IsS92.far ?_ NB0_162.out _ | refine IsS92.far ?_ NB0_175.out _) | exact HI0.out)) (by (with_reducible repeat (first | apply Kd.R_alloc | apply Kd.R_drewN | apply Kd.R_drew)); exact HO_176004.out) (by decide)) hk (fun _ h => h.2)) (fun _ h => h.1)); have n1_ := Aside0.mk (KeepBut.blk hk (g' := gb162) (o := .cells #[.int .i64 0, .int .i64 0, .bool false, .string (⟨#[]⟩ : ByteArray), .slice none 0 0, .int .u32 0, .int .u32 0, .int .u64 0, .int .u32 0, .int .u64 0, .int .u32 0, .string (⟨#[]⟩ : ByteArray), .int .u64 0, .int .u32 0] 35 (0, 0)) (by (with_reducible repeat (first | refine blk_drewN ?_ _ | refine blk_drew ?_ | refine blk_alloc ?_ _)); exact BK162.out) NB162_0.out (by simp)); have n2_ := Aside0.mk (KeepBut.blk hk (g' := gb175) (o := .cells #[.int .i64 (wrap64 (t163)), .int .i64 (wrap64 (t166)), .bool t169, .string t172, u176004, .int .u32 0, .int .u32 0, .int .u64 0, .int .u32 0, .int .u64 0, .int .u32 0, .string (⟨#[]⟩ : ByteArray), .int .u64 0, .int .u32 0] 35 (0, 0)) (by (with_reducible repeat (first | refine blk_drewN ?_ _ | refine blk_drew ?_ | refine blk_alloc ?_ _)); exact BK175.out) NB175_0.out (by simp)); have n3_ := Aside0.mk (KeepBut.trans (by repeat (first | (with_reducible first | exact HK.out | apply KeepBut.set_ | apply keep_drewN | apply keep_drew | apply keep_alloc | refine keep_far ?_ GW162.out _ | refine keep_far ?_ GW175.out _) | exact HK.out)) hk (.inl rfl)); have n4_ := Aside0.mk (hb); have n5_ := Aside0.mk (hi); clear HO_176004; clear BK162; clear BK175; clear HK; clear HB; clear HI0; have HO_176004 := n0_; have BK162 := n1_; have BK175 := n2_; have HK := n3_; have HB := n4_; have HI0 := n5_; clear n0_ n1_ n2_ n3_ n4_ n5_; (try clear hb); (try clear hb2); (try clear hk); (try clear hi)) | ((with_reducible refine gate_callee (f := 55) rfl ?_); refine goesL_ (some 33) rfl rfl Try.func55 (by kernel_rfl) rfl #[.pointer (some ⟨g, 0, none⟩)] rfl (by (try simp only [List.map_toArray, List.map_cons, List.map_nil]); first | done | rfl | (simp only [List.length_drop, List.length_take]; rfl)) ?_; (with_reducible refine (pack_Reader_Stamp.calls g t190 t191 t192 t193 t194 t195 w0 _ ?side1 ?side2 A28.out).mono ?_); (case side1 => repeat (first | (with_reducible first | exact HI0.out | apply IsS92.alloc | apply IsS92.drewN | apply IsS92.drew | apply IsS92.set_0 | apply IsS92.set_1 | refine IsS92.far ?_ NB0_162.out _ | refine IsS92.far ?_ NB0_175.out _) | exact HI0.out)); (case side2 => repeat (first | (with_reducible first | exact HB.out | apply below_alloc | apply pw_below_drewN | apply below_drew1 | refine below_set ?_ (IsS92.ge HI0.out) | refine below_set ?_ GE162.out | refine below_set ?_ GE175.out) | exact HB.out)); rintro e w33 ⟨rfl, hi, hb, hk⟩; refine ⟨_, rfl, ?_⟩; have n0_ := Aside0.mk (Kd.R_mono (Kd.R_keep (IsS92.apart (show IsS92 w0 _ g t190 t191 from by repeat (first | (with_reducible first | exact HI0.out | apply IsS92.alloc | apply IsS92.drewN | apply IsS92.drew | apply IsS92.set_0 | apply IsS92.set_1 | refine IsS92.far ?_ NB0_162.out _ | refine IsS92.far ?_ NB0_175.out _) | exact HI0.out)) (by (with_reducible repeat (first | apply Kd.R_alloc | apply Kd.R_drewN | apply Kd.R_drew)); exact HO_176004.out) (by decide)) hk (fun _ h => h.2)) (fun _ h => h.1)); have n1_ := Aside0.mk (KeepBut.blk hk (g' := gb162) (o := .cells #[.int .i64 0, .int .i64 0, .bool false, .string (⟨#[]⟩ : ByteArray), .slice none 0 0, .int .u32 0, .int .u32 0, .int .u64 0, .int .u32 0, .int .u64 0, .int .u32 0, .string (⟨#[]⟩ : ByteArray), .int .u64 0, .int .u32 0] 35 (0, 0)) (by (with_reducible repeat (first | refine blk_drewN ?_ _ | refine blk_drew ?_ | refine blk_alloc ?_ _)); exact BK162.out) NB162_0.out (by simp)); have n2_ := Aside0.mk (KeepBut.blk hk (g' := gb175) (o := .cells #[.int .i64 (wrap64 (t163)), .int .i64 (wrap64 (t166)), .bool t169, .string t172, u176004, .int .u32 0, .int .u32 0, .int .u64 0, .int .u32 0, .int .u64 0, .int .u32 0, .string (⟨#[]⟩ : ByteArray), .int .u64 0, .int .u32 0] 35 (0, 0)) (by (with_reducible repeat (first | refine blk_drewN ?_ _ | refine blk_drew ?_ | refine blk_alloc ?_ _)); exact BK175.out) NB175_0.out (by simp)); have n3_ := Aside0.mk (KeepBut.trans (by repeat (first | (with_reducible first | exact HK.out | apply KeepBut.set_ | apply keep_drewN | apply keep_drew | apply keep_alloc | refine keep_far ?_ GW162.out _ | refine keep_far ?_ GW175.out _) | exact HK.out)) hk (.inl rfl)); have n4_ := Aside0.mk (hb); have n5_ := Aside0.mk (hi); clear HO_176004; clear BK162; clear BK175; clear HK; clear HB; clear HI0; have HO_176004 := n0_; have BK162 := n1_; have BK175 := n2_; have HK := n3_; have HB := n4_; have HI0 := n5_; clear n0_ n1_ n2_ n3_ n4_ n5_; (try clear hb); (try clear hb2); (try clear hk); (try clear hi); have hnb34 := NB175_162.out; have hnc34 := NB162_175.out; have hnb35 := NB175_0.out; have hnc35 := NB0_175.out; have hcz36_0 : w33.cell? ⟨gb175, 0, none⟩ = some (.int .i64 (wrap64 (t163))) := (blk_cell BK175.out 0).trans rfl; have hcz36_1 : w33.cell? ⟨gb175, 1, none⟩ = some (.int .i64 (wrap64 (t166))) := (blk_cell BK175.out 1).trans rfl; have hcz36_2 : w33.cell? ⟨gb175, 2, none⟩ = some (.bool t169) := (blk_cell BK175.out 2).trans rfl; have hcz36_3 : w33.cell? ⟨gb175, 3, none⟩ = some (.string t172) := (blk_cell BK175.out 3).trans rfl; have hcz36_4 : w33.cell? ⟨gb175, 4, none⟩ = some (u176004) := (blk_cell BK175.out 4).trans rfl; have hcz36_5 : w33.cell? ⟨gb175, 5, none⟩ = some (.int .u32 0) := (blk_cell BK175.out 5).trans rfl; have hcz36_6 : w33.cell? ⟨gb175, 6, none⟩ = some (.int .u32 0) := (blk_cell BK175.out 6).trans rfl; have hcz36_7 : w33.cell? ⟨gb175, 7, none⟩ = some (.int .u64 0) := (blk_cell BK175.out 7).trans rfl; have hcz36_8 : w33.cell? ⟨gb175, 8, none⟩ = some (.int .u32 0) := (blk_cell BK175.out 8).trans rfl; have hcz36_9 : w33.cell? ⟨gb175, 9, none⟩ = some (.int .u64 0) := (blk_cell BK175.out 9).trans rfl; have hcz36_10 : w33.cell? ⟨gb175, 10, none⟩ = some (.int .u32 0) := (blk_cell BK175.out 10).trans rfl; have hcz36_11 : w33.cell? ⟨gb175, 11, none⟩ = some (.string (⟨#[]⟩ : ByteArray)) := (blk_cell BK175.out 11).trans rfl; have hcz36_12 : w33.cell? ⟨gb175, 12, none⟩ = some (.int .u64 0) := (blk_cell BK175.out 12).trans rfl; have hcz36_13 : w33.cell? ⟨gb175, 13, none⟩ = some (.int .u32 0) := (blk_cell BK175.out 13).trans rfl; have hfz36_0 := blk_frozen BK175.out 0; have hfz36_1 := blk_frozen BK175.out 1; have hfz36_2 := blk_frozen BK175.out 2; have hfz36_3 := blk_frozen BK175.out 3; have hfz36_4 := blk_frozen BK175.out 4; have hfz36_5 := blk_frozen BK175.out 5; have hfz36_6 := blk_frozen BK175.out 6; have hfz36_7 := blk_frozen BK175.out 7; have hfz36_8 := blk_frozen BK175.out 8; have hfz36_9 := blk_frozen BK175.out 9; have hfz36_10 := blk_frozen BK175.out 10; have hfz36_11 := blk_frozen BK175.out 11; have hfz36_12 := blk_frozen BK175.out 12; have hfz36_13 := blk_frozen BK175.out 13) | ((with_reducible refine gate_callee (f := 55) rfl ?_); refine goesL_ (some 37) rfl rfl Try.func55 (by kernel_rfl) rfl #[.pointer (some ⟨g, 0, none⟩)] rfl (by (try simp only [List.map_toArray, List.map_cons, List.map_nil]); first | done | rfl | (simp only [List.length_drop, List.length_take]; rfl)) ?_; (with_reducible refine (pack_Reader_Stamp.calls g t194 t195 t196 t197 t198 t199 w0 _ ?side1 ?side2 A29.out).mono ?_); (case side1 => repeat (first | (with_reducible first | exact HI0.out | apply IsS92.alloc | apply IsS92.drewN | apply IsS92.drew | apply IsS92.set_0 | apply IsS92.set_1 | refine IsS92.far ?_ NB0_162.out _ | refine IsS92.far ?_ NB0_175.out _) | exact HI0.out)); (case side2 => repeat (first | (with_reducible first | exact HB.out | apply below_alloc | apply pw_below_drewN | apply below_drew1 | refine below_set ?_ (IsS92.ge HI0.out) | refine below_set ?_ GE162.out | refine below_set ?_ GE175.out) | exact HB.out)); rintro e w37 ⟨rfl, hi, hb, hk⟩; refine ⟨_, rfl, ?_⟩; have n0_ := Aside0.mk (Kd.R_mono (Kd.R_keep (IsS92.apart (show IsS92 w0 _ g t194 t195 from by repeat (first | (with_reducible first | exact HI0.out | apply IsS92.alloc | apply IsS92.drewN | apply IsS92.drew | apply IsS92.set_0 | apply IsS92.set_1 | refine IsS92.far ?_ NB0_162.out _ | refine IsS92.far ?_ NB0_175.out _) | exact HI0.out)) (by (with_reducible repeat (first | apply Kd.R_alloc | apply Kd.R_drewN | apply Kd.R_drew)); exact (Kd.R_mono (Kd.R_far (p := ⟨gb175, 8, none⟩) (Kd.R_far (p := ⟨gb175, 7, none⟩) (Kd.R_far (p := ⟨gb175, 6, none⟩) (Kd.R_far (p := ⟨gb175, 5, none⟩) (Kd.R_types HO_176004.out BK175.out (by decide)) (fun _ hk => hk.2) (.int .u32 t188)) (fun _ hk => hk.2) (.int .u32 t189)) (fun _ hk => hk.2) (.int .u64 t192)) (fun _ hk => hk.2) (.int .u32 t193)) (fun _ h_ => h_.1))) (by decide)) hk (fun _ h => h.2)) (fun _ h => h.1)); have n1_ := Aside0.mk (KeepBut.blk hk (g' := gb162) (o := .cells #[.int .i64 0, .int .i64 0, .bool false, .string (⟨#[]⟩ : ByteArray), .slice none 0 0, .int .u32 0, .int .u32 0, .int .u64 0, .int .u32 0, .int .u64 0, .int .u32 0, .string (⟨#[]⟩ : ByteArray), .int .u64 0, .int .u32 0] 35 (0, 0)) (by (with_reducible repeat (first | refine blk_drewN ?_ _ | refine blk_drew ?_ | refine blk_alloc ?_ _)); refine blk_far ?_ NB162_175.out _; (with_reducible repeat (first | refine blk_drewN ?_ _ | refine blk_drew ?_ | refine blk_alloc ?_ _)); refine blk_far ?_ NB162_175.out _; (with_reducible repeat (first | refine blk_drewN ?_ _ | refine blk_drew ?_ | refine blk_alloc ?_ _)); refine blk_far ?_ NB162_175.out _; (with_reducible repeat (first | refine blk_drewN ?_ _ | refine blk_drew ?_ | refine blk_alloc ?_ _)); refine blk_far ?_ NB162_175.out _; (with_reducible repeat (first | refine blk_drewN ?_ _ | refine blk_drew ?_ | refine blk_alloc ?_ _)); exact BK162.out) NB162_0.out (by simp)); have n2_ := Aside0.mk (KeepBut.blk hk (g' := gb175) (o := .cells #[.int .i64 (wrap64 (t163)), .int .i64 (wrap64 (t166)), .bool t169, .string t172, u176004, .int .u32 t188, .int .u32 t189, .int .u64 t192, .int .u32 t193, .int .u64 0, .int .u32 0, .string (⟨#[]⟩ : ByteArray), .int .u64 0, .int .u32 0] 35 (0, 0)) (by (with_reducible repeat (first | refine blk_drewN ?_ _ | refine blk_drew ?_ | refine blk_alloc ?_ _)); refine blk_put (cs := #[.int .i64 (wrap64 (t163)), .int .i64 (wrap64 (t166)), .bool t169, .string t172, u176004, .int .u32 t188, .int .u32 t189, .int .u64 t192, .int .u32 0, .int .u64 0, .int .u32 0, .string (⟨#[]⟩ : ByteArray), .int .u64 0, .int .u32 0]) ?_ 8 _ rfl; (with_reducible repeat (first | refine blk_drewN ?_ _ | refine blk_drew ?_ | refine blk_alloc ?_ _)); refine blk_put (cs := #[.int .i64 (wrap64 (t163)), .int .i64 (wrap64 (t166)), .bool t169, .string t172, u176004, .int .u32 t188, .int .u32 t189, .int .u64 0, .int .u32 0, .int .u64 0, .int .u32 0, .string (⟨#[]⟩ : ByteArray), .int .u64 0, .int .u32 0]) ?_ 7 _ rfl; (with_reducible repeat (first | refine blk_drewN ?_ _ | refine blk_drew ?_ | refine blk_alloc ?_ _)); refine blk_put (cs := #[.int .i64 (wrap64 (t163)), .int .i64 (wrap64 (t166)), .bool t169, .string t172, u176004, .int .u32 t188, .int .u32 0, .int .u64 0, .int .u32 0, .int .u64 0, .int .u32 0, .string (⟨#[]⟩ : ByteArray), .int .u64 0, .int .u32 0]) ?_ 6 _ rfl; (with_reducible repeat (first | refine blk_drewN ?_ _ | refine blk_drew ?_ | refine blk_alloc ?_ _)); refine blk_put (cs := #[.int .i64 (wrap64 (t163)), .int .i64 (wrap64 (t166)), .bool t169, .string t172, u176004, .int .u32 0, .int .u32 0, .int .u64 0, .int .u32 0, .int .u64 0, .int .u32 0, .string (⟨#[]⟩ : ByteArray), .int .u64 0, .int .u32 0]) ?_ 5 _ rfl; (with_reducible repeat (first | refine blk_drewN ?_ _ | refine blk_drew ?_ | refine blk_alloc ?_ _)); exact BK175.out) NB175_0.out (by simp)); have n3_ := Aside0.mk (KeepBut.trans (by repeat (first | (with_reducible first | exact HK.out | apply KeepBut.set_ | apply keep_drewN | apply keep_drew | apply keep_alloc | refine keep_far ?_ GW162.out _ | refine keep_far ?_ GW175.out _) | exact HK.out)) hk (.inl rfl)); have n4_ := Aside0.mk (hb); have n5_ := Aside0.mk (hi); clear HO_176004; clear BK162; clear BK175; clear HK; clear HB; clear HI0; have HO_176004 := n0_; have BK162 := n1_; have BK175 := n2_; have HK := n3_; have HB := n4_; have HI0 := n5_; clear n0_ n1_ n2_ n3_ n4_ n5_; (try clear hb); (try clear hb2); (try clear hk); (try clear hi)) | ((with_reducible refine gate_callee (f := 52) rfl ?_); refine goesL_ (some 39) rfl rfl Try.func52 (by kernel_rfl) rfl #[.pointer (some ⟨g, 0, none⟩), .int .i64 0, .int .i64 32] rfl (by (try simp only [List.map_toArray, List.map_cons, List.map_nil]); first | done | rfl | (simp only [List.length_drop, List.length_take]; rfl)) ?_; (with_reducible refine (pack_Reader_Text.calls k1 g t198 t199 0 32 t200 t201 t202 w0 _ ?side1 ?side2 A30.out).mono ?_); (case side1 => repeat (first | (with_reducible first | exact HI0.out | apply IsS92.alloc | apply IsS92.drewN | apply IsS92.drew | apply IsS92.set_0 | apply IsS92.set_1 | refine IsS92.far ?_ NB0_162.out _ | refine IsS92.far ?_ NB0_175.out _) | exact HI0.out)); (case side2 => repeat (first | (with_reducible first | exact HB.out | apply below_alloc | apply pw_below_drewN | apply below_drew1 | refine below_set ?_ (IsS92.ge HI0.out) | refine below_set ?_ GE162.out | refine below_set ?_ GE175.out) | exact HB.out)); rintro e w38 ⟨rfl, hi, hb, hk⟩; refine ⟨_, rfl, ?_⟩; have n0_ := Aside0.mk (Kd.R_mono (Kd.R_keep (IsS92.apart (show IsS92 w0 _ g t198 t199 from by repeat (first | (with_reducible first | exact HI0.out | apply IsS92.alloc | apply IsS92.drewN | apply IsS92.drew | apply IsS92.set_0 | apply IsS92.set_1 | refine IsS92.far ?_ NB0_162.out _ | refine IsS92.far ?_ NB0_175.out _) | exact HI0.out)) (by (with_reducible repeat (first | apply Kd.R_alloc | apply Kd.R_drewN | apply Kd.R_drew)); exact HO_176004.out) (by decide)) hk (fun _ h => h.2)) (fun _ h => h.1)); have n1_ := Aside0.mk (KeepBut.blk hk (g' := gb162) (o := .cells #[.int .i64 0, .int .i64 0, .bool false, .string (⟨#[]⟩ : ByteArray), .slice none 0 0, .int .u32 0, .int .u32 0, .int .u64 0, .int .u32 0, .int .u64 0, .int .u32 0, .string (⟨#[]⟩ : ByteArray), .int .u64 0, .int .u32 0] 35 (0, 0)) (by (with_reducible repeat (first | refine blk_drewN ?_ _ | refine blk_drew ?_ | refine blk_alloc ?_ _)); exact BK162.out) NB162_0.out (by simp)); have n2_ := Aside0.mk (KeepBut.blk hk (g' := gb175) (o := .cells #[.int .i64 (wrap64 (t163)), .int .i64 (wrap64 (t166)), .bool t169, .string t172, u176004, .int .u32 t188, .int .u32 t189, .int .u64 t192, .int .u32 t193, .int .u64 0, .int .u32 0, .string (⟨#[]⟩ : ByteArray), .int .u64 0, .int .u32 0] 35 (0, 0)) (by (with_reducible repeat (first | refine blk_drewN ?_ _ | refine blk_drew ?_ | refine blk_alloc ?_ _)); exact BK175.out) NB175_0.out (by simp)); have n3_ := Aside0.mk (KeepBut.trans (by repeat (first | (with_reducible first | exact HK.out | apply KeepBut.set_ | apply keep_drewN | apply keep_drew | apply keep_alloc | refine keep_far ?_ GW162.out _ | refine keep_far ?_ GW175.out _) | exact HK.out)) hk (.inl rfl)); have n4_ := Aside0.mk (hb); have n5_ := Aside0.mk (hi); clear HO_176004; clear BK162; clear BK175; clear HK; clear HB; clear HI0; have HO_176004 := n0_; have BK162 := n1_; have BK175 := n2_; have HK := n3_; have HB := n4_; have HI0 := n5_; clear n0_ n1_ n2_ n3_ n4_ n5_; (try clear hb); (try clear hb2); (try clear hk); (try clear hi)) | ((with_reducible refine gate_callee (f := 55) rfl ?_); refine goesL_ (some 41) rfl rfl Try.func55 (by kernel_rfl) rfl #[.pointer (some ⟨g, 0, none⟩)] rfl (by (try simp only [List.map_toArray, List.map_cons, List.map_nil]); first | done | rfl | (simp only [List.length_drop, List.length_take]; rfl)) ?_; (with_reducible refine (pack_Reader_Stamp.calls g t201 t202 t203 t204 t205 t206 w0 _ ?side1 ?side2 A31.out).mono ?_); (case side1 => repeat (first | (with_reducible first | exact HI0.out | apply IsS92.alloc | apply IsS92.drewN | apply IsS92.drew | apply IsS92.set_0 | apply IsS92.set_1 | refine IsS92.far ?_ NB0_162.out _ | refine IsS92.far ?_ NB0_175.out _) | exact HI0.out)); (case side2 => repeat (first | (with_reducible first | exact HB.out | apply below_alloc | apply pw_below_drewN | apply below_drew1 | refine below_set ?_ (IsS92.ge HI0.out) | refine below_set ?_ GE162.out | refine below_set ?_ GE175.out) | exact HB.out)); rintro e w39 ⟨rfl, hi, hb, hk⟩; refine ⟨_, rfl, ?_⟩; have n0_ := Aside0.mk (Kd.R_mono (Kd.R_keep (IsS92.apart (show IsS92 w0 _ g t201 t202 from by repeat (first | (with_reducible first | exact HI0.out | apply IsS92.alloc | apply IsS92.drewN | apply IsS92.drew | apply IsS92.set_0 | apply IsS92.set_1 | refine IsS92.far ?_ NB0_162.out _ | refine IsS92.far ?_ NB0_175.out _) | exact HI0.out)) (by (with_reducible repeat (first | apply Kd.R_alloc | apply Kd.R_drewN | apply Kd.R_drew)); exact HO_176004.out) (by decide)) hk (fun _ h => h.2)) (fun _ h => h.1)); have n1_ := Aside0.mk (KeepBut.blk hk (g' := gb162) (o := .cells #[.int .i64 0, .int .i64 0, .bool false, .string (⟨#[]⟩ : ByteArray), .slice none 0 0, .int .u32 0, .int .u32 0, .int .u64 0, .int .u32 0, .int .u64 0, .int .u32 0, .string (⟨#[]⟩ : ByteArray), .int .u64 0, .int .u32 0] 35 (0, 0)) (by (with_reducible repeat (first | refine blk_drewN ?_ _ | refine blk_drew ?_ | refine blk_alloc ?_ _)); exact BK162.out) NB162_0.out (by simp)); have n2_ := Aside0.mk (KeepBut.blk hk (g' := gb175) (o := .cells #[.int .i64 (wrap64 (t163)), .int .i64 (wrap64 (t166)), .bool t169, .string t172, u176004, .int .u32 t188, .int .u32 t189, .int .u64 t192, .int .u32 t193, .int .u64 0, .int .u32 0, .string (⟨#[]⟩ : ByteArray), .int .u64 0, .int .u32 0] 35 (0, 0)) (by (with_reducible repeat (first | refine blk_drewN ?_ _ | refine blk_drew ?_ | refine blk_alloc ?_ _)); exact BK175.out) NB175_0.out (by simp)); have n3_ := Aside0.mk (KeepBut.trans (by repeat (first | (with_reducible first | exact HK.out | apply KeepBut.set_ | apply keep_drewN | apply keep_drew | apply keep_alloc | refine keep_far ?_ GW162.out _ | refine keep_far ?_ GW175.out _) | exact HK.out)) hk (.inl rfl)); have n4_ := Aside0.mk (hb); have n5_ := Aside0.mk (hi); clear HO_176004; clear BK162; clear BK175; clear HK; clear HB; clear HI0; have HO_176004 := n0_; have BK162 := n1_; have BK175 := n2_; have HK := n3_; have HB := n4_; have HI0 := n5_; clear n0_ n1_ n2_ n3_ n4_ n5_; (try clear hb); (try clear hb2); (try clear hk); (try clear hi); have hcz40_0 : w39.cell? ⟨gb175, 0, none⟩ = some (.int .i64 (wrap64 (t163))) := (blk_cell BK175.out 0).trans rfl; have hcz40_1 : w39.cell? ⟨gb175, 1, none⟩ = some (.int .i64 (wrap64 (t166))) := (blk_cell BK175.out 1).trans rfl; have hcz40_2 : w39.cell? ⟨gb175, 2, none⟩ = some (.bool t169) := (blk_cell BK175.out 2).trans rfl; have hcz40_3 : w39.cell? ⟨gb175, 3, none⟩ = some (.string t172) := (blk_cell BK175.out 3).trans rfl; have hcz40_4 : w39.cell? ⟨gb175, 4, none⟩ = some (u176004) := (blk_cell BK175.out 4).trans rfl; have hcz40_5 : w39.cell? ⟨gb175, 5, none⟩ = some (.int .u32 t188) := (blk_cell BK175.out 5).trans rfl; have hcz40_6 : w39.cell? ⟨gb175, 6, none⟩ = some (.int .u32 t189) := (blk_cell BK175.out 6).trans rfl; have hcz40_7 : w39.cell? ⟨gb175, 7, none⟩ = some (.int .u64 t192) := (blk_cell BK175.out 7).trans rfl; have hcz40_8 : w39.cell? ⟨gb175, 8, none⟩ = some (.int .u32 t193) := (blk_cell BK175.out 8).trans rfl; have hcz40_9 : w39.cell? ⟨gb175, 9, none⟩ = some (.int .u64 0) := (blk_cell BK175.out 9).trans rfl; have hcz40_10 : w39.cell? ⟨gb175, 10, none⟩ = some (.int .u32 0) := (blk_cell BK175.out 10).trans rfl; have hcz40_11 : w39.cell? ⟨gb175, 11, none⟩ = some (.string (⟨#[]⟩ : ByteArray)) := (blk_cell BK175.out 11).trans rfl; have hcz40_12 : w39.cell? ⟨gb175, 12, none⟩ = some (.int .u64 0) := (blk_cell BK175.out 12).trans rfl; have hcz40_13 : w39.cell? ⟨gb175, 13, none⟩ = some (.int .u32 0) := (blk_cell BK175.out 13).trans rfl; have hfz40_0 := blk_frozen BK175.out 0; have hfz40_1 := blk_frozen BK175.out 1; have hfz40_2 := blk_frozen BK175.out 2; have hfz40_3 := blk_frozen BK175.out 3; have hfz40_4 := blk_frozen BK175.out 4; have hfz40_5 := blk_frozen BK175.out 5; have hfz40_6 := blk_frozen BK175.out 6; have hfz40_7 := blk_frozen BK175.out 7; have hfz40_8 := blk_frozen BK175.out 8; have hfz40_9 := blk_frozen BK175.out 9; have hfz40_10 := blk_frozen BK175.out 10; have hfz40_11 := blk_frozen BK175.out 11; have hfz40_12 := blk_frozen BK175.out 12; have hfz40_13 := blk_frozen BK175.out 13; have hnb41 := NB162_0.out; have hnc41 := NB0_162.out; have hcz42_0 : w39.cell? ⟨gb162, 0, none⟩ = some (.int .i64 0) := (blk_cell BK162.out 0).trans rfl; have hcz42_1 : w39.cell? ⟨gb162, 1, none⟩ = some (.int .i64 0) := (blk_cell BK162.out 1).trans rfl; have hcz42_2 : w39.cell? ⟨gb162, 2, none⟩ = some (.bool false) := (blk_cell BK162.out 2).trans rfl; have hcz42_3 : w39.cell? ⟨gb162, 3, none⟩ = some (.string (⟨#[]⟩ : ByteArray)) := (blk_cell BK162.out 3).trans rfl; have hcz42_4 : w39.cell? ⟨gb162, 4, none⟩ = some (.slice none 0 0) := (blk_cell BK162.out 4).trans rfl; have hcz42_5 : w39.cell? ⟨gb162, 5, none⟩ = some (.int .u32 0) := (blk_cell BK162.out 5).trans rfl; have hcz42_6 : w39.cell? ⟨gb162, 6, none⟩ = some (.int .u32 0) := (blk_cell BK162.out 6).trans rfl; have hcz42_7 : w39.cell? ⟨gb162, 7, none⟩ = some (.int .u64 0) := (blk_cell BK162.out 7).trans rfl; have hcz42_8 : w39.cell? ⟨gb162, 8, none⟩ = some (.int .u32 0) := (blk_cell BK162.out 8).trans rfl; have hcz42_9 : w39.cell? ⟨gb162, 9, none⟩ = some (.int .u64 0) := (blk_cell BK162.out 9).trans rfl; have hcz42_10 : w39.cell? ⟨gb162, 10, none⟩ = some (.int .u32 0) := (blk_cell BK162.out 10).trans rfl; have hcz42_11 : w39.cell? ⟨gb162, 11, none⟩ = some (.string (⟨#[]⟩ : ByteArray)) := (blk_cell BK162.out 11).trans rfl; have hcz42_12 : w39.cell? ⟨gb162, 12, none⟩ = some (.int .u64 0) := (blk_cell BK162.out 12).trans rfl; have hcz42_13 : w39.cell? ⟨gb162, 13, none⟩ = some (.int .u32 0) := (blk_cell BK162.out 13).trans rfl; have hfz42_0 := blk_frozen BK162.out 0; have hfz42_1 := blk_frozen BK162.out 1; have hfz42_2 := blk_frozen BK162.out 2; have hfz42_3 := blk_frozen BK162.out 3; have hfz42_4 := blk_frozen BK162.out 4; have hfz42_5 := blk_frozen BK162.out 5; have hfz42_6 := blk_frozen BK162.out 6; have hfz42_7 := blk_frozen BK162.out 7; have hfz42_8 := blk_frozen BK162.out 8; have hfz42_9 := blk_frozen BK162.out 9; have hfz42_10 := blk_frozen BK162.out 10; have hfz42_11 := blk_frozen BK162.out 11; have hfz42_12 := blk_frozen BK162.out 12; have hfz42_13 := blk_frozen BK162.out 13; obtain ⟨Ao43, co43, eo43⟩ := Kd.R_slice HO_176004.out; subst eo43))
        refine bodyPost_ret (results_cell_row rfl _ _ gb162 35 #[.int .i64 (wrap64 (t163)), .int .i64 (wrap64 (t166)), .bool t169, .string t172, .slice Ao43 x176004_1.length co43, .int .u32 t188, .int .u32 t189, .int .u64 t192, .int .u32 t193, .int .u64 t196, .int .u32 t197, .string t200, .int .u64 t203, .int .u32 t204] (0, 0) _ rfl (by (with_reducible repeat (first | refine blk_drewN ?_ _ | refine blk_drew ?_ | refine blk_alloc ?_ _)); refine blk_put (cs := #[.int .i64 (wrap64 (t163)), .int .i64 (wrap64 (t166)), .bool t169, .string t172, .slice Ao43 x176004_1.length co43, .int .u32 t188, .int .u32 t189, .int .u64 t192, .int .u32 t193, .int .u64 t196, .int .u32 t197, .string t200, .int .u64 t203, .int .u32 0]) ?_ 13 _ rfl; (with_reducible repeat (first | refine blk_drewN ?_ _ | refine blk_drew ?_ | refine blk_alloc ?_ _)); refine blk_put (cs := #[.int .i64 (wrap64 (t163)), .int .i64 (wrap64 (t166)), .bool t169, .string t172, .slice Ao43 x176004_1.length co43, .int .u32 t188, .int .u32 t189, .int .u64 t192, .int .u32 t193, .int .u64 t196, .int .u32 t197, .string t200, .int .u64 0, .int .u32 0]) ?_ 12 _ rfl; (with_reducible repeat (first | refine blk_drewN ?_ _ | refine blk_drew ?_ | refine blk_alloc ?_ _)); refine blk_put (cs := #[.int .i64 (wrap64 (t163)), .int .i64 (wrap64 (t166)), .bool t169, .string t172, .slice Ao43 x176004_1.length co43, .int .u32 t188, .int .u32 t189, .int .u64 t192, .int .u32 t193, .int .u64 t196, .int .u32 t197, .string (⟨#[]⟩ : ByteArray), .int .u64 0, .int .u32 0]) ?_ 11 _ rfl; (with_reducible repeat (first | refine blk_drewN ?_ _ | refine blk_drew ?_ | refine blk_alloc ?_ _)); refine blk_put (cs := #[.int .i64 (wrap64 (t163)), .int .i64 (wrap64 (t166)), .bool t169, .string t172, .slice Ao43 x176004_1.length co43, .int .u32 t188, .int .u32 t189, .int .u64 t192, .int .u32 t193, .int .u64 t196, .int .u32 0, .string (⟨#[]⟩ : ByteArray), .int .u64 0, .int .u32 0]) ?_ 10 _ rfl; (with_reducible repeat (first | refine blk_drewN ?_ _ | refine blk_drew ?_ | refine blk_alloc ?_ _)); refine blk_put (cs := #[.int .i64 (wrap64 (t163)), .int .i64 (wrap64 (t166)), .bool t169, .string t172, .slice Ao43 x176004_1.length co43, .int .u32 t188, .int .u32 t189, .int .u64 t192, .int .u32 t193, .int .u64 0, .int .u32 0, .string (⟨#[]⟩ : ByteArray), .int .u64 0, .int .u32 0]) ?_ 9 _ rfl; (with_reducible repeat (first | refine blk_drewN ?_ _ | refine blk_drew ?_ | refine blk_alloc ?_ _)); refine blk_put (cs := #[.int .i64 (wrap64 (t163)), .int .i64 (wrap64 (t166)), .bool t169, .string t172, .slice Ao43 x176004_1.length co43, .int .u32 t188, .int .u32 t189, .int .u64 t192, .int .u32 0, .int .u64 0, .int .u32 0, .string (⟨#[]⟩ : ByteArray), .int .u64 0, .int .u32 0]) ?_ 8 _ rfl; (with_reducible repeat (first | refine blk_drewN ?_ _ | refine blk_drew ?_ | refine blk_alloc ?_ _)); refine blk_put (cs := #[.int .i64 (wrap64 (t163)), .int .i64 (wrap64 (t166)), .bool t169, .string t172, .slice Ao43 x176004_1.length co43, .int .u32 t188, .int .u32 t189, .int .u64 0, .int .u32 0, .int .u64 0, .int .u32 0, .string (⟨#[]⟩ : ByteArray), .int .u64 0, .int .u32 0]) ?_ 7 _ rfl; (with_reducible repeat (first | refine blk_drewN ?_ _ | refine blk_drew ?_ | refine blk_alloc ?_ _)); refine blk_put (cs := #[.int .i64 (wrap64 (t163)), .int .i64 (wrap64 (t166)), .bool t169, .string t172, .slice Ao43 x176004_1.length co43, .int .u32 t188, .int .u32 0, .int .u64 0, .int .u32 0, .int .u64 0, .int .u32 0, .string (⟨#[]⟩ : ByteArray), .int .u64 0, .int .u32 0]) ?_ 6 _ rfl; (with_reducible repeat (first | refine blk_drewN ?_ _ | refine blk_drew ?_ | refine blk_alloc ?_ _)); refine blk_put (cs := #[.int .i64 (wrap64 (t163)), .int .i64 (wrap64 (t166)), .bool t169, .string t172, .slice Ao43 x176004_1.length co43, .int .u32 0, .int .u32 0, .int .u64 0, .int .u32 0, .int .u64 0, .int .u32 0, .string (⟨#[]⟩ : ByteArray), .int .u64 0, .int .u32 0]) ?_ 5 _ rfl; (with_reducible repeat (first | refine blk_drewN ?_ _ | refine blk_drew ?_ | refine blk_alloc ?_ _)); refine blk_put (cs := #[.int .i64 (wrap64 (t163)), .int .i64 (wrap64 (t166)), .bool t169, .string t172, .slice none 0 0, .int .u32 0, .int .u32 0, .int .u64 0, .int .u32 0, .int .u64 0, .int .u32 0, .string (⟨#[]⟩ : ByteArray), .int .u64 0, .int .u32 0]) ?_ 4 _ rfl; (with_reducible repeat (first | refine blk_drewN ?_ _ | refine blk_drew ?_ | refine blk_alloc ?_ _)); refine blk_put (cs := #[.int .i64 (wrap64 (t163)), .int .i64 (wrap64 (t166)), .bool t169, .string (⟨#[]⟩ : ByteArray), .slice none 0 0, .int .u32 0, .int .u32 0, .int .u64 0, .int .u32 0, .int .u64 0, .int .u32 0, .string (⟨#[]⟩ : ByteArray), .int .u64 0, .int .u32 0]) ?_ 3 _ rfl; (with_reducible repeat (first | refine blk_drewN ?_ _ | refine blk_drew ?_ | refine blk_alloc ?_ _)); refine blk_put (cs := #[.int .i64 (wrap64 (t163)), .int .i64 (wrap64 (t166)), .bool false, .string (⟨#[]⟩ : ByteArray), .slice none 0 0, .int .u32 0, .int .u32 0, .int .u64 0, .int .u32 0, .int .u64 0, .int .u32 0, .string (⟨#[]⟩ : ByteArray), .int .u64 0, .int .u32 0]) ?_ 2 _ rfl; (with_reducible repeat (first | refine blk_drewN ?_ _ | refine blk_drew ?_ | refine blk_alloc ?_ _)); refine blk_put (cs := #[.int .i64 (wrap64 (t163)), .int .i64 0, .bool false, .string (⟨#[]⟩ : ByteArray), .slice none 0 0, .int .u32 0, .int .u32 0, .int .u64 0, .int .u32 0, .int .u64 0, .int .u32 0, .string (⟨#[]⟩ : ByteArray), .int .u64 0, .int .u32 0]) ?_ 1 _ rfl; (with_reducible repeat (first | refine blk_drewN ?_ _ | refine blk_drew ?_ | refine blk_alloc ?_ _)); refine blk_put (cs := #[.int .i64 0, .int .i64 0, .bool false, .string (⟨#[]⟩ : ByteArray), .slice none 0 0, .int .u32 0, .int .u32 0, .int .u64 0, .int .u32 0, .int .u64 0, .int .u32 0, .string (⟨#[]⟩ : ByteArray), .int .u64 0, .int .u32 0]) ?_ 0 _ rfl; (with_reducible repeat (first | refine blk_drewN ?_ _ | refine blk_drew ?_ | refine blk_alloc ?_ _)); refine blk_far ?_ NB162_175.out _; (with_reducible repeat (first | refine blk_drewN ?_ _ | refine blk_drew ?_ | refine blk_alloc ?_ _)); refine blk_far ?_ NB162_175.out _; (with_reducible repeat (first | refine blk_drewN ?_ _ | refine blk_drew ?_ | refine blk_alloc ?_ _)); refine blk_far ?_ NB162_175.out _; (with_reducible repeat (first | refine blk_drewN ?_ _ | refine blk_drew ?_ | refine blk_alloc ?_ _)); refine blk_far ?_ NB162_175.out _; (with_reducible repeat (first | refine blk_drewN ?_ _ | refine blk_drew ?_ | refine blk_alloc ?_ _)); refine blk_far ?_ NB162_175.out _; (with_reducible repeat (first | refine blk_drewN ?_ _ | refine blk_drew ?_ | refine blk_alloc ?_ _)); exact BK162.out) Try.underlying35 rfl (by kernel_rfl)) rfl ?_
        exact ⟨_, by first | rfl | (simp [errW_none, errW_some] <;> rfl) | (simp [*, errW_none, errW_some] <;> rfl), by (with_reducible repeat (first | apply Kd.R_alloc | apply Kd.R_drewN | apply Kd.R_drew)); exact Kd.R_mono (Kd.R_far (p := ⟨gb162, 13, none⟩) (Kd.R_far (p := ⟨gb162, 12, none⟩) (Kd.R_far (p := ⟨gb162, 11, none⟩) (Kd.R_far (p := ⟨gb162, 10, none⟩) (Kd.R_far (p := ⟨gb162, 9, none⟩) (Kd.R_far (p := ⟨gb162, 8, none⟩) (Kd.R_far (p := ⟨gb162, 7, none⟩) (Kd.R_far (p := ⟨gb162, 6, none⟩) (Kd.R_far (p := ⟨gb162, 5, none⟩) (Kd.R_far (p := ⟨gb162, 4, none⟩) (Kd.R_far (p := ⟨gb162, 3, none⟩) (Kd.R_far (p := ⟨gb162, 2, none⟩) (Kd.R_far (p := ⟨gb162, 1, none⟩) (Kd.R_far (p := ⟨gb162, 0, none⟩) (Kd.R_far (p := ⟨gb175, 13, none⟩) (Kd.R_far (p := ⟨gb175, 12, none⟩) (Kd.R_far (p := ⟨gb175, 11, none⟩) (Kd.R_far (p := ⟨gb175, 10, none⟩) (Kd.R_far (p := ⟨gb175, 9, none⟩) (Kd.R_types (Kd.R_types HO_176004.out BK175.out (by decide)) BK162.out (by decide)) (fun _ hk => hk.1.2) (.int .u64 t196)) (fun _ hk => hk.1.2) (.int .u32 t197)) (fun _ hk => hk.1.2) (.string t200)) (fun _ hk => hk.1.2) (.int .u64 t203)) (fun _ hk => hk.1.2) (.int .u32 t204)) (fun _ hk => hk.2) (.int .i64 (wrap64 (t163)))) (fun _ hk => hk.2) (.int .i64 (wrap64 (t166)))) (fun _ hk => hk.2) (.bool t169)) (fun _ hk => hk.2) (.string t172)) (fun _ hk => hk.2) (.slice Ao43 x176004_1.length co43)) (fun _ hk => hk.2) (.int .u32 t188)) (fun _ hk => hk.2) (.int .u32 t189)) (fun _ hk => hk.2) (.int .u64 t192)) (fun _ hk => hk.2) (.int .u32 t193)) (fun _ hk => hk.2) (.int .u64 t196)) (fun _ hk => hk.2) (.int .u32 t197)) (fun _ hk => hk.2) (.string t200)) (fun _ hk => hk.2) (.int .u64 t203)) (fun _ hk => hk.2) (.int .u32 t204)) (fun _ hk => trivial), by repeat (first | (with_reducible first | exact HI0.out | apply IsS92.alloc | apply IsS92.drewN | apply IsS92.drew | apply IsS92.set_0 | apply IsS92.set_1 | refine IsS92.far ?_ NB0_162.out _ | refine IsS92.far ?_ NB0_175.out _) | exact HI0.out), by repeat (first | (with_reducible first | exact HB.out | apply below_alloc | apply pw_below_drewN | apply below_drew1 | refine below_set ?_ (IsS92.ge HI0.out) | refine below_set ?_ GE162.out | refine below_set ?_ GE175.out) | exact HB.out), by repeat (first | (with_reducible first | exact HK.out | apply KeepBut.set_ | apply keep_drewN | apply keep_drew | apply keep_alloc | refine keep_far ?_ GW162.out _ | refine keep_far ?_ GW175.out _) | exact HK.out)⟩

/-! ### dovecoteref02_Number: function 47 -/
def dovecoteref02_Number.l0 : Nat → List Int → Int → Option (ByteArray)
  | 0, _, _ => none
  | k + 1, x3, x4 => if x4 > 0 then ((some (([(Int.tmod x4 256) % 256] : List Int) : List Int)).bind fun y210 => (if y210.length + x3.length < 140737488355328 then (dovecoteref02_Number.l0 k (y210 ++ x3) (IntKind.u64.wrap (Int.tdiv x4 256))) else (none))) else ((some (([(wrap64 (247 + (x3.length : Int))) % 256] : List Int) : List Int)).bind fun y216 => (if (strOfNums y216).size + (strOfNums x3).size ≤ 9223372036854775807 then (some ((strOfNums y216) ++ (strOfNums x3))) else (none)))
def dovecoteref02_Number.f (k : Nat) (a0 : Int) : Option (ByteArray) := if a0 < 248 then (some (strOfNums (([(a0) % 256] : List Int)))) else (dovecoteref02_Number.l0 k ([] : List Int) a0)
theorem dovecoteref02_Number.mono_l : ∀ k, (∀ y0 y1, LeO (dovecoteref02_Number.l0 k y0 y1) (dovecoteref02_Number.l0 (k + 1) y0 y1))
  | 0 => fun _ _ r h => by simp [dovecoteref02_Number.l0] at h
  | k + 1 => by
    have ih0 := dovecoteref02_Number.mono_l k
    · intro y0 y1
      unfold dovecoteref02_Number.l0
      repeat' first
      | (with_reducible exact ih0 _ _)
      | (with_reducible exact LeO.refl _)
      | (with_reducible exact LeO.none _)
      | (with_reducible refine LeO.ite ?_ ?_)
      | (with_reducible refine LeO.bind ?_ (fun _ => ?_))
      | exact ih0 _ _
      | exact LeO.none _
      | refine LeO.ite ?_ ?_
      | refine LeO.bind ?_ (fun _ => ?_)
theorem dovecoteref02_Number.mono : ∀ a0 k, LeO (dovecoteref02_Number.f k a0) (dovecoteref02_Number.f (k + 1) a0) := by
  intro a0 k
  have ih0 := dovecoteref02_Number.mono_l k
  unfold dovecoteref02_Number.f
  repeat' first
      | (with_reducible exact ih0 _ _)
      | (with_reducible exact LeO.refl _)
      | (with_reducible exact LeO.none _)
      | (with_reducible refine LeO.ite ?_ ?_)
      | (with_reducible refine LeO.bind ?_ (fun _ => ?_))
      | exact ih0 _ _
      | exact LeO.none _
      | refine LeO.ite ?_ ?_
      | refine LeO.bind ?_ (fun _ => ?_)
set_option maxHeartbeats 8000000 in
set_option maxRecDepth 100000 in
theorem dovecoteref02_Number.calls (k : Nat) (a0 : Int) (r : ByteArray) (w : World) (h : dovecoteref02_Number.f k a0 = some r) :
    Calls Try.prog 47 #[.int .u64 a0] w fun e w' => e = .returned (.string r) ∧ Below w.heap.size w w' := by
  have HB := Aside0.mk (Below.refl w.heap.size w)
  have H : (if a0 < 248 then (some (strOfNums (([(a0) % 256] : List Int)))) else (dovecoteref02_Number.l0 k ([] : List Int) a0)) = some r := h
  clear h
  by_cases c2 : a0 < 248
  · rw [if_pos c2] at H
    have c2b0 : decide (a0 < 248) = true := decide_eq_true c2
    clear c2
    obtain ⟨y207, hy207⟩ : ∃ y_ : List Int, y_ = (([(a0) % 256] : List Int)) := ⟨_, rfl⟩
    replace H : (some (strOfNums y207)) = some r := by first | (rw [hy207]; with_reducible exact H) | (have H2_ := (Option.bind_some _ _).symm.trans H; rw [hy207]; with_reducible exact H2_) | (have H2_ := (Option.bind_some _ _).symm.trans H; with_reducible exact H2_) | with_reducible exact H | (rw [hy207]; exact H) | exact H
    have Ny207 := Aside0.mk hy207
    clear hy207
    obtain rfl := Option.some.inj H
    go_enter Try.func47, Try.ntmps47
    go_wp2_with (first | ((with_reducible refine gate_dst (N := 9) rfl ?_); refine Kd.R_lit (Kd.int .u8) _ 5 ?hg (N := 9) ?hd (xs := ([(a0) % 256] : List Int)) (inner := [.int .u8 ((a0) % 256)]) (ok := fun _ => True) (okp := fun _ => True) ?hr ?hp (fun _ hk => hk) trivial (Below.refl _ _) (Nat.le_refl _) (by simp) ?_; (case hd => rfl); (case hg => rfl); (case hr => first | (go_simp; done) | (go_simp; rfl)); (case hp => exact (Reps.one (show Kd.M (Kd.int .u8) _ _ _ ((a0) % 256) [.int .u8 ((a0) % 256)] from rfl) (Reps.none _ _))); intro v208 w3 ho4 hb hg_ hnew_; clear hg_ hnew_; (first | rw [← Ny207.out] at ho4 | (simp only [Int.reduceToNat] at ho4; rw [← Ny207.out] at ho4)); have n0_ := Aside0.mk (Kd.R_lower ho4 (below_size (by repeat (first | (with_reducible first | exact HB.out | apply below_alloc | apply pw_below_drewN | apply below_drew1) | exact HB.out)))); have n1_ := Aside0.mk (below_step (by repeat (first | (with_reducible first | exact HB.out | apply below_alloc | apply pw_below_drewN | apply below_drew1) | exact HB.out)) hb); clear HB; have HO209 := n0_; have HB := n1_; clear n0_ n1_; clear hb ho4; have hcv5 := own_string (P := Try.prog) Try.underlying51 Try.underlying5 Try.underlying9 (Kd.own_of_R HO209.out)))
    go_ret
    exact ⟨by first | rfl | (simp [errW_none, errW_some] <;> rfl) | (simp [*, errW_none, errW_some] <;> rfl), by repeat (first | (with_reducible first | exact HB.out | apply below_alloc | apply pw_below_drewN | apply below_drew1) | exact HB.out)⟩
  · rw [if_neg c2] at H
    have c2b0 : decide (a0 < 248) = false := decide_eq_false c2
    clear c2
    have H' := Aside0.mk H
    clear H
    go_enter Try.func47, Try.ntmps47
    go_wp2
    go_loopg [3, 4] k (fun kq v3 v4 w' => ∃ (x3_1 : List Int) (x4_1 : Int), v4 = .int .u64 x4_1 ∧ Aside0 (dovecoteref02_Number.l0 kq x3_1 x4_1 = some r) ∧ Aside0 (kq ≤ k) ∧ Aside0 (Kd.R (Kd.int .u8) 5 w' w.heap.size (fun _ => True) v3 x3_1) ∧ Aside0 (Below w.heap.size w w'))
    case atStart => exact ⟨(([] : List Int)), (a0), (by first | rfl | (simp; done) | (simp [*]; done)), H', ⟨Nat.le_refl _⟩, ⟨by first | exact Kd.R_nil _ _ _ _ _ | exact Kd.N_nil _ _ _ _ _ | exact Kd.V_nil _ _ _ _ _ | exact Kd.Q_nil _ _ _ _ _ | exact Kd.S_nil _ _ _ _ _⟩, ⟨by repeat (first | (with_reducible first | exact HB.out | apply below_alloc | apply pw_below_drewN | apply below_drew1) | exact HB.out)⟩⟩
    case round =>
      clear H'
      try clear c2
      try clear c2b0
      try clear p2
      try clear c4
      try clear hcv5
      obtain ⟨x3_1, x4_1, rfl, HA, HK1, HO_3, HB⟩ := hrel
      cases gk with
      | zero => exact absurd HA.out (by simp [dovecoteref02_Number.l0])
      | succ k1 =>
        have H := HA.out
        clear HA
        simp only [dovecoteref02_Number.l0] at H
        by_cases c6 : x4_1 > 0
        · rw [if_pos c6] at H
          have c6b0 : decide (0 < x4_1) = true := decide_eq_true c6
          clear c6
          obtain ⟨y210, hy210⟩ : ∃ y_ : List Int, y_ = (([(Int.tmod x4_1 256) % 256] : List Int)) := ⟨_, rfl⟩
          replace H : (if y210.length + x3_1.length < 140737488355328 then (dovecoteref02_Number.l0 k1 (y210 ++ x3_1) (IntKind.u64.wrap (Int.tdiv x4_1 256))) else (none)) = some r := by first | (rw [hy210]; with_reducible exact H) | (have H2_ := (Option.bind_some _ _).symm.trans H; rw [hy210]; with_reducible exact H2_) | (have H2_ := (Option.bind_some _ _).symm.trans H; with_reducible exact H2_) | with_reducible exact H | (rw [hy210]; exact H) | exact H
          have Ny210 := Aside0.mk hy210
          clear hy210
          by_cases c7 : y210.length + x3_1.length < 140737488355328
          · rw [if_pos c7] at H
            have LMc7 := Aside0.mk c7
            clear c7
            obtain ⟨y213, hy213⟩ : ∃ y_ : List Int, y_ = (y210 ++ x3_1) := ⟨_, rfl⟩
            replace H : (dovecoteref02_Number.l0 k1 y213 (IntKind.u64.wrap (Int.tdiv x4_1 256))) = some r := by first | (rw [hy213]; with_reducible exact H) | (have H2_ := (Option.bind_some _ _).symm.trans H; rw [hy213]; with_reducible exact H2_) | (have H2_ := (Option.bind_some _ _).symm.trans H; with_reducible exact H2_) | with_reducible exact H | (rw [hy213]; exact H) | exact H
            have Ny213 := Aside0.mk hy213
            clear hy213
            have H' := Aside0.mk H
            clear H
            go_wp2_with (first | ((with_reducible refine gate_dst (N := 19) rfl ?_); refine Kd.R_lit (Kd.int .u8) _ 5 ?hg (N := 19) ?hd (xs := ([(Int.tmod x4_1 256) % 256] : List Int)) (inner := [.int .u8 ((Int.tmod x4_1 256) % 256)]) (ok := fun _ => True) (okp := fun _ => True) ?hr ?hp (fun _ hk => hk) trivial (Below.refl _ _) (Nat.le_refl _) (by simp) ?_; (case hd => rfl); (case hg => rfl); (case hr => first | (go_simp; done) | (go_simp; rfl)); (case hp => exact (Reps.one (show Kd.M (Kd.int .u8) _ _ _ ((Int.tmod x4_1 256) % 256) [.int .u8 ((Int.tmod x4_1 256) % 256)] from rfl) (Reps.none _ _))); intro v211 w8 ho9 hb hg_ hnew_; clear hg_ hnew_; (first | rw [← Ny210.out] at ho9 | (simp only [Int.reduceToNat] at ho9; rw [← Ny210.out] at ho9)); have n0_ := Aside0.mk (Kd.R_elder' (by (with_reducible repeat (first | apply Kd.R_alloc | apply Kd.R_drewN | apply Kd.R_drew)); exact HO_3.out) (Kd.R_base ho9) hb); have n1_ := Aside0.mk (Kd.R_lower (Kd.R_new' ho9 (Kd.R_lt (by (with_reducible repeat (first | apply Kd.R_alloc | apply Kd.R_drewN | apply Kd.R_drew)); exact HO_3.out))) (below_size (by repeat (first | (with_reducible first | exact HB.out | apply below_alloc | apply pw_below_drewN | apply below_drew1) | exact HB.out)))); have n2_ := Aside0.mk (below_step (by repeat (first | (with_reducible first | exact HB.out | apply below_alloc | apply pw_below_drewN | apply below_drew1) | exact HB.out)) hb); clear HO_3; clear HB; have HO_3 := n0_; have HO212 := n1_; have HB := n2_; clear n0_ n1_ n2_; clear hb ho9; obtain ⟨Ao11, co11, eo11⟩ := Kd.R_slice HO_3.out; subst eo11) | ((with_reducible refine gate_builtin (b := .append) (xs := #[.tmp 19, .tmp 20]) rfl ?_); at_builtin; refine Kd.R_append_rows (Kd.int .u8) (w0 := w) w.heap.size rfl (.tmp 19) (.tmp 20) 51 5 (.int .u8 0) 1 rfl Try.underlying51 info5 rfl (by decide) (by omega) v211 y210 x3_1 _ _ _ (fun k_ => some k_ ≠ (.slice Ao11 x3_1.length co11 : Value).ownBlock) (fun _ => False) rfl rfl ?aO ?aR (fun _ _ h => h) (fun _ h => h.elim) ?aF ?aB ?aS ?aL ?_; (case aR => repeat (first | exact (Kd.R_reads' HO_3.out).2.2 | (with_reducible refine Kd.C_alloc ?_ _) | (with_reducible refine Kd.C_drewN ?_ _) | (with_reducible refine Kd.C_drew ?_))); (case aB => exact (by repeat (first | (with_reducible first | exact HB.out | apply below_alloc | apply pw_below_drewN | apply below_drew1) | exact HB.out))); (case aF => exact (fun k_ hk => Kd.fresh' (Kd.R_lt (by (with_reducible repeat (first | apply Kd.R_alloc | apply Kd.R_drewN | apply Kd.R_drew)); exact HO_3.out)) k_ hk)); (case aO => exact (by (with_reducible repeat (first | apply Kd.R_alloc | apply Kd.R_drewN | apply Kd.R_drew)); exact Kd.R_mono HO212.out (fun _ hk => hk.2))); (case aS => exact (below_size (by repeat (first | (with_reducible first | exact HB.out | apply below_alloc | apply pw_below_drewN | apply below_drew1) | exact HB.out)))); (case aL => have := LMc7.out; omega); intro v214 w10 ho hb hg hat; rw [← Ny213.out] at ho; have n0_ := Aside0.mk (Kd.R_after (ok := (fun _ => True)) (by (with_reducible repeat (first | apply Kd.R_alloc | apply Kd.R_drewN | apply Kd.R_drew)); exact HO_3.out) hg hat); have n1_ := Aside0.mk (hb); have n2_ := Aside0.mk (ho); clear HO_3; clear HB; clear HO212; have HO_3 := n0_; have HB := n1_; have HO215 := n2_; clear n0_ n1_ n2_; clear ho hb hg hat))
            go_roundg k1
            case measure => have := HK1.out; omega
            case rel => exact ⟨(y213), (IntKind.u64.wrap (Int.tdiv x4_1 256)), (by first | rfl | (simp; done) | (simp [*]; done)), H', ⟨by have := HK1.out; omega⟩, ⟨by (with_reducible repeat (first | apply Kd.R_alloc | apply Kd.R_drewN | apply Kd.R_drew)); exact Kd.R_mono HO215.out (fun _ hk => trivial)⟩, ⟨by repeat (first | (with_reducible first | exact HB.out | apply below_alloc | apply pw_below_drewN | apply below_drew1) | exact HB.out)⟩⟩
          · rw [if_neg c7] at H
            exact absurd H (by simp)
        · rw [if_neg c6] at H
          have c6b0 : decide (0 < x4_1) = false := decide_eq_false c6
          clear c6
          obtain ⟨y216, hy216⟩ : ∃ y_ : List Int, y_ = (([(wrap64 (247 + (x3_1.length : Int))) % 256] : List Int)) := ⟨_, rfl⟩
          replace H : (if (strOfNums y216).size + (strOfNums x3_1).size ≤ 9223372036854775807 then (some ((strOfNums y216) ++ (strOfNums x3_1))) else (none)) = some r := by first | (rw [hy216]; with_reducible exact H) | (have H2_ := (Option.bind_some _ _).symm.trans H; rw [hy216]; with_reducible exact H2_) | (have H2_ := (Option.bind_some _ _).symm.trans H; with_reducible exact H2_) | with_reducible exact H | (rw [hy216]; exact H) | exact H
          have Ny216 := Aside0.mk hy216
          clear hy216
          by_cases c12 : (strOfNums y216).size + (strOfNums x3_1).size ≤ 9223372036854775807
          · rw [if_pos c12] at H
            have c12b0 := eq_true c12
            have c12b1 : decide ((strOfNums y216).size + (strOfNums x3_1).size ≤ 9223372036854775807) = true := decide_eq_true c12
            try have c12b2 : (9223372036854775807 < (strOfNums y216).size + (strOfNums x3_1).size) = False := eq_false (Nat.not_lt.2 c12)
            obtain rfl := Option.some.inj H
            obtain ⟨Ao13, co13, eo13⟩ := Kd.R_slice HO_3.out
            subst eo13
            go_wp2_with (first | ((with_reducible refine gate_dst (N := 26) rfl ?_); refine Kd.R_lit (Kd.int .u8) _ 5 ?hg (N := 26) ?hd (xs := ([(wrap64 (247 + (x3_1.length : Int))) % 256] : List Int)) (inner := [.int .u8 ((wrap64 (247 + (x3_1.length : Int))) % 256)]) (ok := fun _ => True) (okp := fun _ => True) ?hr ?hp (fun _ hk => hk) trivial (Below.refl _ _) (Nat.le_refl _) (by simp) ?_; (case hd => rfl); (case hg => rfl); (case hr => first | (go_simp; done) | (go_simp; rfl)); (case hp => exact (Reps.one (show Kd.M (Kd.int .u8) _ _ _ ((wrap64 (247 + (x3_1.length : Int))) % 256) [.int .u8 ((wrap64 (247 + (x3_1.length : Int))) % 256)] from rfl) (Reps.none _ _))); intro v217 w14 ho15 hb hg_ hnew_; clear hg_ hnew_; (first | rw [← Ny216.out] at ho15 | (simp only [Int.reduceToNat] at ho15; rw [← Ny216.out] at ho15)); have n0_ := Aside0.mk (Kd.R_elder' (by (with_reducible repeat (first | apply Kd.R_alloc | apply Kd.R_drewN | apply Kd.R_drew)); exact HO_3.out) (Kd.R_base ho15) hb); have n1_ := Aside0.mk (Kd.R_lower (Kd.R_new' ho15 (Kd.R_lt (by (with_reducible repeat (first | apply Kd.R_alloc | apply Kd.R_drewN | apply Kd.R_drew)); exact HO_3.out))) (below_size (by repeat (first | (with_reducible first | exact HB.out | apply below_alloc | apply pw_below_drewN | apply below_drew1) | exact HB.out)))); have n2_ := Aside0.mk (below_step (by repeat (first | (with_reducible first | exact HB.out | apply below_alloc | apply pw_below_drewN | apply below_drew1) | exact HB.out)) hb); clear HO_3; clear HB; have HO_3 := n0_; have HO218 := n1_; have HB := n2_; clear n0_ n1_ n2_; clear hb ho15; have hcv16 := own_string (P := Try.prog) Try.underlying51 Try.underlying5 Try.underlying9 (Kd.own_of_R HO218.out); have hcv17 := own_string (P := Try.prog) Try.underlying51 Try.underlying5 Try.underlying9 (Kd.own_of_R HO_3.out)))
            go_ret
            exact ⟨by first | rfl | (simp [errW_none, errW_some] <;> rfl) | (simp [*, errW_none, errW_some] <;> rfl), by repeat (first | (with_reducible first | exact HB.out | apply below_alloc | apply pw_below_drewN | apply below_drew1) | exact HB.out)⟩
          · rw [if_neg c12] at H
            exact absurd H (by simp)

/-- A state of type 81 at block g of W; what its slices lead to came in by w0. -/
def IsS81 (w0 W : World) (g : Nat) (f0 : ByteArray) (f1 : Int) : Prop := W.heap[g]? = some (.cells #[.string f0, .int .i64 f1] 81 (0, 0)) ∧ w0.heap.size ≤ g
theorem IsS81.grown {w0 W : World} {g : Nat} {f0 : ByteArray} {f1 : Int} {W1 : World} {row : Option Nat} (h : IsS81 w0 W g f0 f1) (hw : W.grownBy W1 row) (hne : some g ≠ row) : IsS81 w0 W1 g f0 f1 := by
  obtain ⟨hb, hg⟩ := h
  exact ⟨blk_grown hb hw hne, hg⟩
theorem IsS81.own_neN {w0 W : World} {g : Nat} {f0 : ByteArray} {f1 : Int} {α : Type} {d : Kd α} {e : Nat} {base : Nat} {ok : Nat → Prop} {v : Value} {xs : List α} (h : IsS81 w0 W g f0 f1) (ho : Kd.N d e W base ok v xs) (ht : e ≠ 81) : some g ≠ v.ownBlock := by
  obtain ⟨hb, hg⟩ := h
  exact Kd.N_ne ho hb ht
theorem IsS81.fresh {w0 W : World} {g : Nat} {f0 : ByteArray} {f1 : Int} (h : IsS81 w0 W g f0 f1) : ∀ k, W.heap.size ≤ k → k ≠ g := by
  obtain ⟨hb, hg⟩ := h
  exact Kd.freshB hb
theorem IsS81.kept {w0 W : World} {g : Nat} {f0 : ByteArray} {f1 : Int} {W1 : World} {S : Nat → Prop} (h : IsS81 w0 W g f0 f1) (hk : Kept W W1 S) (hne : ¬ S g) : IsS81 w0 W1 g f0 f1 := by
  obtain ⟨hb, hg⟩ := h
  exact ⟨blk_kept hb hk hne, hg⟩
theorem IsS81.below {w0 W : World} {g : Nat} {f0 : ByteArray} {f1 : Int} {W1 : World} (h : IsS81 w0 W g f0 f1) (hw : Below W.heap.size W W1) : IsS81 w0 W1 g f0 f1 := h.grown (grown_of_below hw none) (by simp)
theorem IsS81.alloc {w0 W : World} {g : Nat} {f0 : ByteArray} {f1 : Int} (h : IsS81 w0 W g f0 f1) (o : Obj) : IsS81 w0 (W.alloc o) g f0 f1 := h.below (below_alloc (Below.refl _ _) o)
theorem IsS81.drewN {w0 W : World} {g : Nat} {f0 : ByteArray} {f1 : Int} (h : IsS81 w0 W g f0 f1) (m : Nat) : IsS81 w0 (W.drewN m) g f0 f1 := h
theorem IsS81.drew {w0 W : World} {g : Nat} {f0 : ByteArray} {f1 : Int} (h : IsS81 w0 W g f0 f1) : IsS81 w0 W.drew g f0 f1 := h
theorem IsS81.at_ {w0 W : World} {g : Nat} {f0 : ByteArray} {f1 : Int} {w' : World} {m : Nat} (hq : W.drewN m = w') (h : IsS81 w0 W g f0 f1) : IsS81 w0 w' g f0 f1 := by subst hq; exact IsS81.drewN h m
theorem IsS81.apart {w0 W : World} {g : Nat} {f0 : ByteArray} {f1 : Int} {α : Type} {d : Kd α} {e : Nat} {base : Nat} {ok : Nat → Prop} {v : Value} {xs : List α} (h : IsS81 w0 W g f0 f1) (ho : d.R e W base ok v xs) (ht : ∀ q, q ∈ e :: d.E → q ≠ 81) : d.R e W base (fun k => ok k ∧ k ≠ g) v xs := by
  obtain ⟨hb, hg⟩ := h
  exact Kd.R_types ho hb ht
theorem IsS81.own_ne {w0 W : World} {g : Nat} {f0 : ByteArray} {f1 : Int} {α : Type} {d : Kd α} {e : Nat} {base : Nat} {ok : Nat → Prop} {v : Value} {xs : List α} (h : IsS81 w0 W g f0 f1) (ho : d.R e W base ok v xs) (ht : e ≠ 81) : some g ≠ v.ownBlock := by
  obtain ⟨hb, hg⟩ := h
  exact Kd.R_ne ho hb ht
theorem IsS81.apartQ {w0 W : World} {g : Nat} {f0 : ByteArray} {f1 : Int} {α : Type} {d : Kd α} {e : Nat} {base : Nat} {ok : Nat → Prop} {v : Value} {xs : List α} (h : IsS81 w0 W g f0 f1) (ho : d.Q e W base ok v xs) (ht : ∀ q, q ∈ e :: d.E → q ≠ 81) : d.Q e W base (fun k => ok k ∧ k ≠ g) v xs := by
  obtain ⟨hb, hg⟩ := h
  exact Kd.Q_types ho hb ht
theorem IsS81.own_neQ {w0 W : World} {g : Nat} {f0 : ByteArray} {f1 : Int} {α : Type} {d : Kd α} {e : Nat} {base : Nat} {ok : Nat → Prop} {v : Value} {xs : List α} (h : IsS81 w0 W g f0 f1) (ho : d.Q e W base ok v xs) (ht : e ≠ 81) : some g ≠ v.ownBlock := by
  obtain ⟨hb, hg⟩ := h
  exact Kd.Q_ne ho hb ht
theorem IsS81.apartS {w0 W : World} {g : Nat} {f0 : ByteArray} {f1 : Int} {α : Type} {d : Kd α} {e : Nat} {base : Nat} {ok : Nat → Prop} {v : Value} {xs : List α} (h : IsS81 w0 W g f0 f1) (ho : d.S e W base ok v xs) (ht : ∀ q, q ∈ e :: d.E → q ≠ 81) : d.S e W base (fun k => ok k ∧ k ≠ g) v xs := by
  obtain ⟨hb, hg⟩ := h
  exact Kd.S_types ho hb ht
theorem IsS81.own_neS {w0 W : World} {g : Nat} {f0 : ByteArray} {f1 : Int} {α : Type} {d : Kd α} {e : Nat} {base : Nat} {ok : Nat → Prop} {v : Value} {xs : List α} (h : IsS81 w0 W g f0 f1) (ho : d.S e W base ok v xs) (ht : e ≠ 81) : some g ≠ v.ownBlock := by
  obtain ⟨hb, hg⟩ := h
  exact Kd.S_ne ho hb ht
theorem IsS81.lt {w0 W : World} {g : Nat} {f0 : ByteArray} {f1 : Int} (h : IsS81 w0 W g f0 f1) : g < W.heap.size := by
  obtain ⟨hb, hg⟩ := h
  exact blk_lt hb
theorem IsS81.ge {w0 W : World} {g : Nat} {f0 : ByteArray} {f1 : Int} (h : IsS81 w0 W g f0 f1) : w0.heap.size ≤ g := by
  obtain ⟨hb, hg⟩ := h
  exact hg
theorem IsS81.ne_blk {w0 W : World} {g : Nat} {f0 : ByteArray} {f1 : Int} {a : Nat} {cs : Array Value} {t : TypeId} {fr : Nat × Nat} (h : IsS81 w0 W g f0 f1) (hb2 : W.heap[a]? = some (.cells cs t fr)) (ht : t ≠ 81) : g ≠ a := by
  obtain ⟨hb, hg⟩ := h
  rintro rfl
  rw [hb] at hb2
  injection hb2 with hb2
  injection hb2 with _ ht2
  exact ht ht2.symm
theorem IsS81.far {w0 W : World} {g : Nat} {f0 : ByteArray} {f1 : Int} {p : Addr} (h : IsS81 w0 W g f0 f1) (hne : g ≠ p.block) (u : Value) : IsS81 w0 (W.setCell p u) g f0 f1 := by
  obtain ⟨hb, hg⟩ := h
  exact ⟨blk_far hb hne u, hg⟩
theorem cellS81_0 {W : World} {g : Nat} {f0 : ByteArray} {f1 : Int} (h : W.heap[g]? = some (.cells #[.string f0, .int .i64 f1] 81 (0, 0))) : W.cell? ⟨g, 0, none⟩ = some (.string f0) := (blk_cell h 0).trans rfl
theorem IsS81.set_0 {w0 W : World} {g : Nat} {f0 : ByteArray} {f1 : Int} (h : IsS81 w0 W g f0 f1) (x : ByteArray) : IsS81 w0 (W.setCell ⟨g, 0, none⟩ (.string x)) g x f1 := by
  obtain ⟨hb, hg⟩ := h
  exact ⟨by simpa using blk_set hb 0 (.string x), hg⟩
theorem cellS81_1 {W : World} {g : Nat} {f0 : ByteArray} {f1 : Int} (h : W.heap[g]? = some (.cells #[.string f0, .int .i64 f1] 81 (0, 0))) : W.cell? ⟨g, 1, none⟩ = some (.int .i64 f1) := (blk_cell h 1).trans rfl
theorem IsS81.set_1 {w0 W : World} {g : Nat} {f0 : ByteArray} {f1 : Int} (h : IsS81 w0 W g f0 f1) (x : Int) : IsS81 w0 (W.setCell ⟨g, 1, none⟩ (.int .i64 x)) g f0 x := by
  obtain ⟨hb, hg⟩ := h
  exact ⟨by simpa using blk_set hb 1 (.int .i64 x), hg⟩
theorem IsS81.new (w0 W : World) (f0 : ByteArray) (f1 : Int) (hB : Below w0.heap.size w0 W) : IsS81 w0 (W.alloc (.cells #[.string f0, .int .i64 f1] 81)) W.heap.size f0 f1 := ⟨by simpa using heap_alloc_new W _, hB.size⟩

/-! ### dovecoteref02_Reader_fail: function 57 -/
def dovecoteref02_Reader_fail.f (s0_0 : ByteArray) (s0_1 : Int) (a1 : Int) : Option (ByteArray × Int) := some ((⟨#[]⟩ : ByteArray), a1)
set_option maxHeartbeats 8000000 in
set_option maxRecDepth 100000 in
theorem dovecoteref02_Reader_fail.calls (g : Nat) (s0_0 : ByteArray) (s0_1 : Int) (a1 : Int) (r1 : ByteArray) (r2 : Int) (w0 w : World) (hI : IsS81 w0 w g s0_0 s0_1) (hB : Below w0.heap.size w0 w) (h : dovecoteref02_Reader_fail.f s0_0 s0_1 a1 = some (r1, r2)) :
    Calls Try.prog 57 #[.pointer (some ⟨g, 0, none⟩), .int .i64 a1] w fun e w' => e = .returned (.tuple #[]) ∧ IsS81 w0 w' g r1 r2 ∧ Below w0.heap.size w0 w' ∧ KeepBut w w' g none := by
  have HI0 := Aside0.mk hI
  have HK := Aside0.mk (KeepBut.refl w g none)
  have HL := Aside0.mk hB.size
  clear hI
  have HW0 := Aside0.mk hB.size
  have HB := Aside0.mk hB
  clear hB
  have H : (some ((⟨#[]⟩ : ByteArray), a1)) = some (r1, r2) := h
  clear h
  simp only [Option.some.injEq, Prod.mk.injEq] at H
  obtain ⟨rfl, rfl⟩ := H
  obtain ⟨HGz3, hgz3⟩ := HI0.out
  have hcz3_0 := cellS81_0 HGz3
  have hcz3_1 := cellS81_1 HGz3
  have hfz3_0 := blk_frozen HGz3 0
  have hfz3_1 := blk_frozen HGz3 1
  clear HGz3 hgz3
  go_enter Try.func57, Try.ntmps57
  go_wp2
  first | go_end0 | ((try simp only [Exit.inBlock, Exit.then]); refine bodyPost_ret (results_none rfl _ _ _) rfl ?_)
  exact ⟨by first | rfl | (simp [errW_none, errW_some] <;> rfl) | (simp [*, errW_none, errW_some] <;> rfl), by repeat (first | (with_reducible first | exact HI0.out | apply IsS81.alloc | apply IsS81.drewN | apply IsS81.drew | apply IsS81.set_0 | apply IsS81.set_1) | exact HI0.out), by repeat (first | (with_reducible first | exact HB.out | apply below_alloc | apply pw_below_drewN | apply below_drew1 | refine below_set ?_ (IsS81.ge HI0.out)) | exact HB.out), by repeat (first | (with_reducible first | exact HK.out | apply KeepBut.set_ | apply keep_drewN | apply keep_drew | apply keep_alloc) | exact HK.out)⟩

end Go.Proofs.Ytjfokbkfniilhaa.PLa

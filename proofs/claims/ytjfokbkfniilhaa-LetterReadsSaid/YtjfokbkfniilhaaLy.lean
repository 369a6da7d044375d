/- The document's Read is letter's; LetterReads. Conditions: those that each theorem names. -/
import Derived.Test.YtjfokbkfniilhaaLx
import Derived.Test.YtjfokbkfniilhaaLw
import Derived.Test.YtjfokbkfniilhaaLr
import Derived.Test.YtjfokbkfniilhaaLn
set_option linter.unusedVariables false
set_option linter.unusedSimpArgs false
set_option linter.constructorNameAsVariable false
namespace Go.Proofs.Ytjfokbkfniilhaa
open Go.RowKit Go.Deep Go.Proofs.YtjfokbkfniilhaaW.PrintWords Go.Proofs.Ytjfokbkfniilhaa.PLa
structure DUt (w : World) (g b2 b3 : Nat) : Prop where
  a : w.heap.size ≤ b2
  b : w.heap.size ≤ b3
  c : b2 ≠ g
  d : b3 ≠ g
  e : b2 ≠ b3
structure DSu (w : World) (g b2 b3 : Nat) (Z : Array Value) (s : ByteArray) (er : Int) (Q : Array Value) (W : World) : Prop where
  i : PDr.IsS81 w W g s er
  b : Below w.heap.size w W
  z : W.heap[b2]? = some (.cells Z 37 (0, 0))
  q : W.heap[b3]? = some (.cells Q 37 (0, 0))
section
variable {w W W1 : World} {g b2 b3 : Nat} {Z Q Q1 : Array Value} {s s1 : ByteArray} {er er1 : Int}
theorem DSu.call (h : DSu w g b2 b3 Z s er Q W) (ha : DUt w g b2 b3) (hl : Left2 w W W1 g s1 er1) : DSu w g b2 b3 Z s1 er1 Q W1 := ⟨hl.1, hl.2.1, blk_keep2 h.z hl.2.2 ha.c, blk_keep2 h.q hl.2.2 ha.d⟩
theorem DSu.store (h : DSu w g b2 b3 Z s er Q W) (ha : DUt w g b2 b3) (hq : W1.heap[b3]? = some (.cells Q1 37 (0, 0))) (hk : KeepBut W W1 b3 none) (hb : ∀ base w0, base ≤ b3 → Below base w0 W → Below base w0 W1) : DSu w g b2 b3 Z s er Q1 W1 :=
  ⟨⟨blk_keep2 h.i.1 hk (Ne.symm ha.d), h.i.2⟩, hb _ _ ha.b h.b, blk_keep2 h.z hk ha.e, hq⟩
theorem DSu.below (h : DSu w g b2 b3 Z s er Q W) (hb : Below W.heap.size W W1) : DSu w g b2 b3 Z s er Q W1 :=
  ⟨h.i.below hb, bel_then h.b hb, (hb.block _ (lt_at2 h.z)).trans h.z, (hb.block _ (lt_at2 h.q)).trans h.q⟩
end
set_option maxRecDepth 100000 in
set_option maxHeartbeats 16000000 in
theorem dread_calls (s : ByteArray) (hs : s.size ≤ 9223372036854775807) (w : World) : Calls Try.prog 12 #[.string s] w (ReadP s w) := by
  have HX0 := Lib.hid (blk_alloc (heap_alloc_new w (.cells #[(.int .u32 0), (.int .u32 0), (.int .u32 0), (.bool false), (.int .i64 0), (.int .u32 0), (.int .u32 0), (.int .u64 0), (.int .u32 0), (.int .u64 0), (.int .u32 0), (.string ⟨#[]⟩), (.string ⟨#[]⟩), (.int .i64 0), (.int .u8 0), (.slice none 0 0), (.slice none 0 0), (.int .i64 0), (.int .i64 0), (.bool false), (.string ⟨#[]⟩), (.slice none 0 0), (.int .u32 0), (.int .u32 0), (.int .u64 0), (.int .u32 0), (.int .u64 0), (.int .u32 0), (.string ⟨#[]⟩), (.int .u64 0), (.int .u32 0)] 37)) (.cells #[.string s, .int .i64 0] 81))
  have HI0 : Hid (PDr.IsS81 w ((w.alloc (.cells #[(.int .u32 0), (.int .u32 0), (.int .u32 0), (.bool false), (.int .i64 0), (.int .u32 0), (.int .u32 0), (.int .u64 0), (.int .u32 0), (.int .u64 0), (.int .u32 0), (.string ⟨#[]⟩), (.string ⟨#[]⟩), (.int .i64 0), (.int .u8 0), (.slice none 0 0), (.slice none 0 0), (.int .i64 0), (.int .i64 0), (.bool false), (.string ⟨#[]⟩), (.slice none 0 0), (.int .u32 0), (.int .u32 0), (.int .u64 0), (.int .u32 0), (.int .u64 0), (.int .u32 0), (.string ⟨#[]⟩), (.int .u64 0), (.int .u32 0)] 37)).alloc (.cells #[.string s, .int .i64 0] 81)) (w.heap.size + 1) s 0) := Lib.hid ⟨heap_alloc2_new w _ _, by omega⟩
  have HB0 := Lib.hid (below_alloc' (below_alloc' (Below.refl _ w) (.cells #[(.int .u32 0), (.int .u32 0), (.int .u32 0), (.bool false), (.int .i64 0), (.int .u32 0), (.int .u32 0), (.int .u64 0), (.int .u32 0), (.int .u64 0), (.int .u32 0), (.string ⟨#[]⟩), (.string ⟨#[]⟩), (.int .i64 0), (.int .u8 0), (.slice none 0 0), (.slice none 0 0), (.int .i64 0), (.int .i64 0), (.bool false), (.string ⟨#[]⟩), (.slice none 0 0), (.int .u32 0), (.int .u32 0), (.int .u64 0), (.int .u32 0), (.int .u64 0), (.int .u32 0), (.string ⟨#[]⟩), (.int .u64 0), (.int .u32 0)] 37)) (.cells #[.string s, .int .i64 0] 81))
  go_enter Try.func12, Try.ntmps12
  go_wp2_with fail
  refine (dnumber 3 (by decide) HI0.out HB0.out hs).mono ?_
  rintro e w1 ⟨rfl, hl⟩
  have za := rdNum_facts s 0 3 (by decide)
  obtain ⟨a, ha⟩ : ∃ x, x = rdNum s 0 3 := ⟨_, rfl⟩
  rw [← ha] at hl za ⊢
  have EA := Lib.hid ha
  have hz1 := blk_keep2 HX0.out hl.2.2 (by omega)
  have h3 := heap_alloc_new w1 (.cells #[(.int .u32 0), (.int .u32 0), (.int .u32 0), (.bool false), (.int .i64 0), (.int .u32 0), (.int .u32 0), (.int .u64 0), (.int .u32 0), (.int .u64 0), (.int .u32 0), (.string ⟨#[]⟩), (.string ⟨#[]⟩), (.int .i64 0), (.int .u8 0), (.slice none 0 0), (.slice none 0 0), (.int .i64 0), (.int .i64 0), (.bool false), (.string ⟨#[]⟩), (.slice none 0 0), (.int .u32 0), (.int .u32 0), (.int .u64 0), (.int .u32 0), (.int .u64 0), (.int .u32 0), (.string ⟨#[]⟩), (.int .u64 0), (.int .u32 0)] 37)
  have hg1 := lt_at2 hl.1.1
  have HA : Hid (DUt w (w.heap.size + 1) w.heap.size w1.heap.size) := Lib.hid ⟨Nat.le_refl _, by omega, by omega, by omega, by omega⟩
  have HS1 : Hid (DSu w (w.heap.size + 1) w.heap.size w1.heap.size #[(.int .u32 0), (.int .u32 0), (.int .u32 0), (.bool false), (.int .i64 0), (.int .u32 0), (.int .u32 0), (.int .u64 0), (.int .u32 0), (.int .u64 0), (.int .u32 0), (.string ⟨#[]⟩), (.string ⟨#[]⟩), (.int .i64 0), (.int .u8 0), (.slice none 0 0), (.slice none 0 0), (.int .i64 0), (.int .i64 0), (.bool false), (.string ⟨#[]⟩), (.slice none 0 0), (.int .u32 0), (.int .u32 0), (.int .u64 0), (.int .u32 0), (.int .u64 0), (.int .u32 0), (.string ⟨#[]⟩), (.int .u64 0), (.int .u32 0)] a.2.1 a.2.2 #[(.int .u32 0), (.int .u32 0), (.int .u32 0), (.bool false), (.int .i64 0), (.int .u32 0), (.int .u32 0), (.int .u64 0), (.int .u32 0), (.int .u64 0), (.int .u32 0), (.string ⟨#[]⟩), (.string ⟨#[]⟩), (.int .i64 0), (.int .u8 0), (.slice none 0 0), (.slice none 0 0), (.int .i64 0), (.int .i64 0), (.bool false), (.string ⟨#[]⟩), (.slice none 0 0), (.int .u32 0), (.int .u32 0), (.int .u64 0), (.int .u32 0), (.int .u64 0), (.int .u32 0), (.string ⟨#[]⟩), (.int .u64 0), (.int .u32 0)] (w1.alloc (.cells #[(.int .u32 0), (.int .u32 0), (.int .u32 0), (.bool false), (.int .i64 0), (.int .u32 0), (.int .u32 0), (.int .u64 0), (.int .u32 0), (.int .u64 0), (.int .u32 0), (.string ⟨#[]⟩), (.string ⟨#[]⟩), (.int .i64 0), (.int .u8 0), (.slice none 0 0), (.slice none 0 0), (.int .i64 0), (.int .i64 0), (.bool false), (.string ⟨#[]⟩), (.slice none 0 0), (.int .u32 0), (.int .u32 0), (.int .u64 0), (.int .u32 0), (.int .u64 0), (.int .u32 0), (.string ⟨#[]⟩), (.int .u64 0), (.int .u32 0)] 37))) := Lib.hid ⟨hl.1.alloc _, below_alloc' hl.2.1 _, blk_alloc hz1 _, h3⟩
  clear hl ha hz1 h3 hg1 HI0 HB0 HX0
  have hwa : a.1 % 4294967296 = a.1 := Int.emod_eq_of_lt za.1 (by omega)
  have hoka := numOk s 0 3 (by decide) (by decide)
  rw [← EA.out] at hoka
  go_wp2_with ((with_reducible refine gate_store (t := 37) (p := 5) (v := .tmp 12) rfl ?_); refine store_ev2 (P := Try.prog) rfl 37 (.tmp 5) (.tmp 12) rfl rfl w1.heap.size 0 (.agg #[(.int .u32 a.1), (.int .u32 0), (.int .u32 0), (.bool false), (.int .i64 0), (.int .u32 0), (.int .u32 0), (.int .u64 0), (.int .u32 0), (.int .u64 0), (.int .u32 0), (.string ⟨#[]⟩), (.string ⟨#[]⟩), (.int .i64 0), (.int .u8 0), (.slice none 0 0), (.slice none 0 0), (.int .i64 0), (.int .i64 0), (.bool false), (.string ⟨#[]⟩), (.slice none 0 0), (.int .u32 0), (.int .u32 0), (.int .u64 0), (.int .u32 0), (.int .u64 0), (.int .u32 0), (.string ⟨#[]⟩), (.int .u64 0), (.int .u32 0)]) #[(.int .u32 a.1), (.int .u32 0), (.int .u32 0), (.bool false), (.int .i64 0), (.int .u32 0), (.int .u32 0), (.int .u64 0), (.int .u32 0), (.int .u64 0), (.int .u32 0), (.string ⟨#[]⟩), (.string ⟨#[]⟩), (.int .i64 0), (.int .u8 0), (.slice none 0 0), (.slice none 0 0), (.int .i64 0), (.int .i64 0), (.bool false), (.string ⟨#[]⟩), (.slice none 0 0), (.int .u32 0), (.int .u32 0), (.int .u64 0), (.int .u32 0), (.int .u64 0), (.int .u32 0), (.string ⟨#[]⟩), (.int .u64 0), (.int .u32 0)] rfl rfl rfl 37 _ #[(.int .u32 a.1), (.int .u32 0), (.int .u32 0), (.bool false), (.int .i64 0), (.int .u32 0), (.int .u32 0), (.int .u64 0), (.int .u32 0), (.int .u64 0), (.int .u32 0), (.string ⟨#[]⟩), (.string ⟨#[]⟩), (.int .i64 0), (.int .u8 0), (.slice none 0 0), (.slice none 0 0), (.int .i64 0), (.int .i64 0), (.bool false), (.string ⟨#[]⟩), (.slice none 0 0), (.int .u32 0), (.int .u32 0), (.int .u64 0), (.int .u32 0), (.int .u64 0), (.int .u32 0), (.string ⟨#[]⟩), (.int .u64 0), (.int .u32 0)] HS1.out.q (by kernel_rfl) (by show 0 + 31 ≤ 31; decide) (by kernel_rfl) (by kernel_rfl) ?_; intro w2 hq hk hb; have HS2 := Lib.hid (HS1.out.store HA.out hq hk hb); clear hq hk hb)
  clear HS1
  generalize w1.heap.size = b3 at *
  generalize hg2 : w.heap.size + 1 = g at *
  clear hg2
  refine (dnumber 7 (by decide) HS2.out.i HS2.out.b (by omega)).mono ?_
  rintro e w3 ⟨rfl, hl⟩
  have zb := rdNum_facts a.2.1 a.2.2 7 (by decide)
  obtain ⟨b, hb⟩ : ∃ x, x = rdNum a.2.1 a.2.2 7 := ⟨_, rfl⟩
  rw [← hb] at hl zb ⊢
  have EB := Lib.hid hb
  have HS3 := Lib.hid (HS2.out.call HA.out hl)
  clear hl hb HS2
  have hwb : b.1 % 4294967296 = b.1 := Int.emod_eq_of_lt zb.1 (by omega)
  have hokb := numOk a.2.1 a.2.2 7 (by decide) (by decide)
  rw [← EB.out] at hokb
  go_wp2_with ((with_reducible refine gate_store (t := 22) (p := 16) (v := .tmp 15) rfl ?_); refine store_ev2 (P := Try.prog) rfl 22 (.tmp 16) (.tmp 15) rfl rfl b3 1 (.int .u32 b.1) #[(.int .u32 b.1)] rfl rfl rfl 37 _ #[(.int .u32 a.1), (.int .u32 b.1), (.int .u32 0), (.bool false), (.int .i64 0), (.int .u32 0), (.int .u32 0), (.int .u64 0), (.int .u32 0), (.int .u64 0), (.int .u32 0), (.string ⟨#[]⟩), (.string ⟨#[]⟩), (.int .i64 0), (.int .u8 0), (.slice none 0 0), (.slice none 0 0), (.int .i64 0), (.int .i64 0), (.bool false), (.string ⟨#[]⟩), (.slice none 0 0), (.int .u32 0), (.int .u32 0), (.int .u64 0), (.int .u32 0), (.int .u64 0), (.int .u32 0), (.string ⟨#[]⟩), (.int .u64 0), (.int .u32 0)] HS3.out.q (by kernel_rfl) (by show 1 + 1 ≤ 31; decide) (by kernel_rfl) (by kernel_rfl) ?_; intro w4 hq hk hb; have HS4 := Lib.hid (HS3.out.store HA.out hq hk hb); clear hq hk hb)
  clear HS3
  refine (dnumber 4294967295 (by decide) HS4.out.i HS4.out.b (by omega)).mono ?_
  rintro e w5 ⟨rfl, hl⟩
  have zc := rdNum_facts b.2.1 b.2.2 4294967295 (by decide)
  obtain ⟨c, hc⟩ : ∃ x, x = rdNum b.2.1 b.2.2 4294967295 := ⟨_, rfl⟩
  rw [← hc] at hl zc ⊢
  have EC := Lib.hid hc
  have HS5 := Lib.hid (HS4.out.call HA.out hl)
  clear hl hc HS4
  have hwc : c.1 % 4294967296 = c.1 := Int.emod_eq_of_lt zc.1 (by omega)
  have hokc := numOk b.2.1 b.2.2 4294967295 (by decide) (by decide)
  rw [← EC.out] at hokc
  go_wp2_with ((with_reducible refine gate_store (t := 22) (p := 20) (v := .tmp 19) rfl ?_); refine store_ev2 (P := Try.prog) rfl 22 (.tmp 20) (.tmp 19) rfl rfl b3 2 (.int .u32 c.1) #[(.int .u32 c.1)] rfl rfl rfl 37 _ #[(.int .u32 a.1), (.int .u32 b.1), (.int .u32 c.1), (.bool false), (.int .i64 0), (.int .u32 0), (.int .u32 0), (.int .u64 0), (.int .u32 0), (.int .u64 0), (.int .u32 0), (.string ⟨#[]⟩), (.string ⟨#[]⟩), (.int .i64 0), (.int .u8 0), (.slice none 0 0), (.slice none 0 0), (.int .i64 0), (.int .i64 0), (.bool false), (.string ⟨#[]⟩), (.slice none 0 0), (.int .u32 0), (.int .u32 0), (.int .u64 0), (.int .u32 0), (.int .u64 0), (.int .u32 0), (.string ⟨#[]⟩), (.int .u64 0), (.int .u32 0)] HS5.out.q (by kernel_rfl) (by show 2 + 1 ≤ 31; decide) (by kernel_rfl) (by kernel_rfl) ?_; intro w6 hq hk hb; have HS6 := Lib.hid (HS5.out.store HA.out hq hk hb); clear hq hk hb)
  clear HS5
  refine (dflag HS6.out.i HS6.out.b).mono ?_
  rintro e w7 ⟨rfl, hl⟩
  have zd := flag_sz c.2.1 c.2.2
  obtain ⟨d, hd⟩ : ∃ x, x = rdFlag c.2.1 c.2.2 := ⟨_, rfl⟩
  rw [← hd] at hl zd ⊢
  have ED := Lib.hid hd
  have HS7 := Lib.hid (HS6.out.call HA.out hl)
  clear hl hd HS6
  have hdz : d.2.1.size ≤ 9223372036854775807 := by omega
  clear za zb zc zd hs hwa hwb hwc
  cases hd1 : d.1 with
  | true =>
    as_aux_lemma =>
      go_wp2_with ((with_reducible refine gate_store (t := 4) (p := 23) (v := .tmp 22) rfl ?_); refine store_ev2 (P := Try.prog) rfl 4 (.tmp 23) (.tmp 22) rfl rfl b3 3 (.bool true) #[(.bool true)] rfl rfl rfl 37 _ #[(.int .u32 a.1), (.int .u32 b.1), (.int .u32 c.1), (.bool true), (.int .i64 0), (.int .u32 0), (.int .u32 0), (.int .u64 0), (.int .u32 0), (.int .u64 0), (.int .u32 0), (.string ⟨#[]⟩), (.string ⟨#[]⟩), (.int .i64 0), (.int .u8 0), (.slice none 0 0), (.slice none 0 0), (.int .i64 0), (.int .i64 0), (.bool false), (.string ⟨#[]⟩), (.slice none 0 0), (.int .u32 0), (.int .u32 0), (.int .u64 0), (.int .u32 0), (.int .u64 0), (.int .u32 0), (.string ⟨#[]⟩), (.int .u64 0), (.int .u32 0)] HS7.out.q (by kernel_rfl) (by show 3 + 1 ≤ 31; decide) (by kernel_rfl) (by kernel_rfl) ?_; intro w8 hq hk hb; have HS8 := Lib.hid (HS7.out.store HA.out hq hk hb); have x3 := (blk_cell HS8.out.q 3).trans (show _ = some (.bool true) from rfl); clear hq hk hb)
      clear HS7 x3
      refine (dreadReply w w8 g d.2.1 d.2.2 hdz HS8.out.i HS8.out.b).mono ?_
      unfold DRepP
      have HOKx := Lib.hid (repOk d.2.1 d.2.2)
      obtain ⟨r, hr⟩ : ∃ x, x = rdRep d.2.1 d.2.2 := ⟨_, rfl⟩
      rw [← hr] at HOKx ⊢
      have ER := Lib.hid hr
      clear hr
      rintro e w9 ⟨v3, rfl, hR3, hl⟩
      obtain ⟨A3, c3, rfl, hz3, _⟩ := Kd.R_reads hR3
      have HR39 := Lib.hid hR3
      clear hR3 hz3
      have HS9 := Lib.hid (HS8.out.call HA.out hl)
      clear hl HS8
      go_wp2_with ((with_reducible refine gate_store (t := 35) (p := 28) (v := .tmp 27) rfl ?_); refine store_ev2 (P := Try.prog) rfl 35 (.tmp 28) (.tmp 27) rfl rfl b3 17 (.agg #[(.int .i64 r.1.k), (.int .i64 r.1.er), (.bool r.1.fd), (.string r.1.val), (.slice A3 r.1.ps.length c3), (.int .u32 r.1.wc), (.int .u32 r.1.wn), (.int .u64 r.1.sp), (.int .u32 r.1.sl), (.int .u64 r.1.ap), (.int .u32 r.1.al), (.string r.1.pr), (.int .u64 r.1.np), (.int .u32 r.1.nl)]) #[(.int .i64 r.1.k), (.int .i64 r.1.er), (.bool r.1.fd), (.string r.1.val), (.slice A3 r.1.ps.length c3), (.int .u32 r.1.wc), (.int .u32 r.1.wn), (.int .u64 r.1.sp), (.int .u32 r.1.sl), (.int .u64 r.1.ap), (.int .u32 r.1.al), (.string r.1.pr), (.int .u64 r.1.np), (.int .u32 r.1.nl)] rfl rfl rfl 37 _ #[(.int .u32 a.1), (.int .u32 b.1), (.int .u32 c.1), (.bool true), (.int .i64 zRq.k), (.int .u32 zRq.bc), (.int .u32 zRq.bn), (.int .u64 zRq.sp), (.int .u32 zRq.sl), (.int .u64 zRq.ap), (.int .u32 zRq.al), (.string zRq.key), (.string zRq.tt), (.int .i64 zRq.lim), (.int .u8 zRq.parts), (.slice none zRq.ws.length 0), (.slice none zRq.sk.length 0), (.int .i64 r.1.k), (.int .i64 r.1.er), (.bool r.1.fd), (.string r.1.val), (.slice A3 r.1.ps.length c3), (.int .u32 r.1.wc), (.int .u32 r.1.wn), (.int .u64 r.1.sp), (.int .u32 r.1.sl), (.int .u64 r.1.ap), (.int .u32 r.1.al), (.string r.1.pr), (.int .u64 r.1.np), (.int .u32 r.1.nl)] HS9.out.q (by kernel_rfl) (by show 17 + 14 ≤ 31; decide) (by kernel_rfl) (by kernel_rfl) ?_; intro w10 hq hk hb; have HS10 := Lib.hid (HS9.out.store HA.out hq hk hb); have HR310 := Lib.hid (R_thru2 HR39.out HS9.out.q (by decide) hk); clear hq hk hb)
      clear HS9 HR39
      refine (dend HS10.out.i HS10.out.b).mono ?_
      rintro e w11 ⟨rfl, hl⟩
      have hk := hl.2.2
      have HR311 := Lib.hid (R_thru2 HR310.out HS10.out.i.1 (by decide) hk)
      have HS11 := Lib.hid (HS10.out.call HA.out hl)
      clear hl hk HS10 HR310
      obtain ⟨en, hen⟩ : ∃ en, en = rdEnd r.2.1 r.2.2 := ⟨_, rfl⟩
      rw [← hen]
      have HEN := Lib.hid hen
      clear hen
      have HRD : Hid (readR s = if en = 0 then (if rightR ⟨a.1, b.1, c.1, true, zRq, r.1⟩ = true then (⟨a.1, b.1, c.1, true, zRq, r.1⟩, 0) else (zLt, 2)) else (zLt, 2)) := Lib.hid (by
        have hp : rdParts s = (⟨a.1, b.1, c.1, true, zRq, r.1⟩, r.2.1, r.2.2) := by
          simp only [rdParts, ← EA.out, ← EB.out, ← EC.out, ← ED.out, hd1, if_true, Bool.false_eq_true, if_false, ← ER.out]
        unfold readR
        rw [hp, ← HEN.out])
      have HZ : Hid (∀ W : World, LtIn W zLt none 0 none 0 none 0) := Lib.hid (fun W => ⟨Kd.C_nil _ _, Nat.le_refl _, Kd.C_nil _ _, Nat.le_refl _, Kd.C_nil _ _, Nat.le_refl _⟩)
      have HOK : Hid (LOk ⟨a.1, b.1, c.1, true, zRq, r.1⟩) := Lib.hid ⟨hoka, hokb, hokc, zqOk, HOKx.out⟩
      clear hd1
      rcases (show en = 0 ∨ en ≠ 0 from by omega) with he | he
      · subst he
        have HL : Hid (LtIn w11 ⟨a.1, b.1, c.1, true, zRq, r.1⟩ none 0 none 0 A3 c3) := Lib.hid (by obtain ⟨A, c, e, h1, h2⟩ := Kd.R_reads HR311.out; cases e; exact ⟨Kd.C_nil _ _, Nat.le_refl _, Kd.C_nil _ _, Nat.le_refl _, h2, h1⟩)
        cases hri : rightR ⟨a.1, b.1, c.1, true, zRq, r.1⟩ with
        | false =>
          have HR2 : Hid (readR s = (zLt, 2)) := Lib.hid (by rw [HRD.out, if_pos rfl, if_neg (by rw [hri]; decide)])
          have HRI := Lib.hid (rrightL_calls ⟨a.1, b.1, c.1, true, zRq, r.1⟩ none none A3 0 0 c3 w11 HOK.out HL.out.h1 HL.out.h2 HL.out.h3)
          rw [hri] at HRI
          clear hri
          go_wp2_with (first | ((with_reducible refine gate_dst (N := 36) rfl ?_); refine wpList_load_row rfl 37 (.tmp 5) rfl b3 rfl 37 _ (0, 0) _ HS11.out.q Try.underlying37 rfl (by kernel_rfl) ?_) | ((with_reducible refine gate_dst (N := 36) rfl ?_); refine gate_guard (by rfl) ?_; refine wpList_load_row rfl 37 (.tmp 5) rfl b3 rfl 37 _ (0, 0) _ HS11.out.q Try.underlying37 rfl (by kernel_rfl) ?_))
          refine HRI.out.mono ?_
          rintro e w12 ⟨rfl, hBr⟩
          have HS12 := Lib.hid (HS11.out.below hBr)
          have HL12 := Lib.hid (HL.out.below hBr)
          have HR312 := Lib.hid (Kd.R_below HR311.out hBr)
          clear hBr
          go_wp2_with ((with_reducible refine gate_store (t := 37) (p := 2) (v := .tmp 40) rfl ?_); refine store_ev2 (P := Try.prog) rfl 37 (.tmp 2) (.tmp 40) rfl rfl w.heap.size 0 (.agg #[(.int .u32 0), (.int .u32 0), (.int .u32 0), (.bool false), (.int .i64 0), (.int .u32 0), (.int .u32 0), (.int .u64 0), (.int .u32 0), (.int .u64 0), (.int .u32 0), (.string ⟨#[]⟩), (.string ⟨#[]⟩), (.int .i64 0), (.int .u8 0), (.slice none 0 0), (.slice none 0 0), (.int .i64 0), (.int .i64 0), (.bool false), (.string ⟨#[]⟩), (.slice none 0 0), (.int .u32 0), (.int .u32 0), (.int .u64 0), (.int .u32 0), (.int .u64 0), (.int .u32 0), (.string ⟨#[]⟩), (.int .u64 0), (.int .u32 0)]) #[(.int .u32 0), (.int .u32 0), (.int .u32 0), (.bool false), (.int .i64 0), (.int .u32 0), (.int .u32 0), (.int .u64 0), (.int .u32 0), (.int .u64 0), (.int .u32 0), (.string ⟨#[]⟩), (.string ⟨#[]⟩), (.int .i64 0), (.int .u8 0), (.slice none 0 0), (.slice none 0 0), (.int .i64 0), (.int .i64 0), (.bool false), (.string ⟨#[]⟩), (.slice none 0 0), (.int .u32 0), (.int .u32 0), (.int .u64 0), (.int .u32 0), (.int .u64 0), (.int .u32 0), (.string ⟨#[]⟩), (.int .u64 0), (.int .u32 0)] rfl rfl rfl 37 _ #[(.int .u32 0), (.int .u32 0), (.int .u32 0), (.bool false), (.int .i64 0), (.int .u32 0), (.int .u32 0), (.int .u64 0), (.int .u32 0), (.int .u64 0), (.int .u32 0), (.string ⟨#[]⟩), (.string ⟨#[]⟩), (.int .i64 0), (.int .u8 0), (.slice none 0 0), (.slice none 0 0), (.int .i64 0), (.int .i64 0), (.bool false), (.string ⟨#[]⟩), (.slice none 0 0), (.int .u32 0), (.int .u32 0), (.int .u64 0), (.int .u32 0), (.int .u64 0), (.int .u32 0), (.string ⟨#[]⟩), (.int .u64 0), (.int .u32 0)] HS12.out.z (by kernel_rfl) (by show 0 + 31 ≤ 31; decide) (by kernel_rfl) (by kernel_rfl) ?_; intro w19 hq hk hb; have HZ9 := Lib.hid hq; have HB9 := Lib.hid (hb _ _ HA.out.a HS12.out.b); clear hq hk hb)
          refine bodyPost_ret (results_ct rfl _ _ w.heap.size 37 _ (0, 0) _ rfl HZ9.out Try.underlying37 rfl (by kernel_rfl)) rfl ?_
          exact ⟨none, 0, none, 0, none, 0, by rw [HR2.out]; rfl, by rw [HR2.out]; exact HZ.out _, HB9.out⟩
        | true =>
          have HR2 : Hid (readR s = (⟨a.1, b.1, c.1, true, zRq, r.1⟩, 0)) := Lib.hid (by rw [HRD.out, if_pos rfl, if_pos hri])
          have HRI := Lib.hid (rrightL_calls ⟨a.1, b.1, c.1, true, zRq, r.1⟩ none none A3 0 0 c3 w11 HOK.out HL.out.h1 HL.out.h2 HL.out.h3)
          rw [hri] at HRI
          clear hri
          go_wp2_with (first | ((with_reducible refine gate_dst (N := 36) rfl ?_); refine wpList_load_row rfl 37 (.tmp 5) rfl b3 rfl 37 _ (0, 0) _ HS11.out.q Try.underlying37 rfl (by kernel_rfl) ?_) | ((with_reducible refine gate_dst (N := 36) rfl ?_); refine gate_guard (by rfl) ?_; refine wpList_load_row rfl 37 (.tmp 5) rfl b3 rfl 37 _ (0, 0) _ HS11.out.q Try.underlying37 rfl (by kernel_rfl) ?_))
          refine HRI.out.mono ?_
          rintro e w12 ⟨rfl, hBr⟩
          have HS12 := Lib.hid (HS11.out.below hBr)
          have HL12 := Lib.hid (HL.out.below hBr)
          have HR312 := Lib.hid (Kd.R_below HR311.out hBr)
          clear hBr
          go_wp2_with (first | ((with_reducible refine gate_dst (N := 41) rfl ?_); refine wpList_load_row rfl 37 (.tmp 5) rfl b3 rfl 37 _ (0, 0) _ HS12.out.q Try.underlying37 rfl (by kernel_rfl) ?_) | ((with_reducible refine gate_store (t := 37) (p := 2) (v := .tmp 41) rfl ?_); refine store_ev2 (P := Try.prog) rfl 37 (.tmp 2) (.tmp 41) rfl rfl w.heap.size 0 (.agg #[(.int .u32 a.1), (.int .u32 b.1), (.int .u32 c.1), (.bool true), (.int .i64 zRq.k), (.int .u32 zRq.bc), (.int .u32 zRq.bn), (.int .u64 zRq.sp), (.int .u32 zRq.sl), (.int .u64 zRq.ap), (.int .u32 zRq.al), (.string zRq.key), (.string zRq.tt), (.int .i64 zRq.lim), (.int .u8 zRq.parts), (.slice none zRq.ws.length 0), (.slice none zRq.sk.length 0), (.int .i64 r.1.k), (.int .i64 r.1.er), (.bool r.1.fd), (.string r.1.val), (.slice A3 r.1.ps.length c3), (.int .u32 r.1.wc), (.int .u32 r.1.wn), (.int .u64 r.1.sp), (.int .u32 r.1.sl), (.int .u64 r.1.ap), (.int .u32 r.1.al), (.string r.1.pr), (.int .u64 r.1.np), (.int .u32 r.1.nl)]) #[(.int .u32 a.1), (.int .u32 b.1), (.int .u32 c.1), (.bool true), (.int .i64 zRq.k), (.int .u32 zRq.bc), (.int .u32 zRq.bn), (.int .u64 zRq.sp), (.int .u32 zRq.sl), (.int .u64 zRq.ap), (.int .u32 zRq.al), (.string zRq.key), (.string zRq.tt), (.int .i64 zRq.lim), (.int .u8 zRq.parts), (.slice none zRq.ws.length 0), (.slice none zRq.sk.length 0), (.int .i64 r.1.k), (.int .i64 r.1.er), (.bool r.1.fd), (.string r.1.val), (.slice A3 r.1.ps.length c3), (.int .u32 r.1.wc), (.int .u32 r.1.wn), (.int .u64 r.1.sp), (.int .u32 r.1.sl), (.int .u64 r.1.ap), (.int .u32 r.1.al), (.string r.1.pr), (.int .u64 r.1.np), (.int .u32 r.1.nl)] rfl rfl rfl 37 _ #[(.int .u32 a.1), (.int .u32 b.1), (.int .u32 c.1), (.bool true), (.int .i64 zRq.k), (.int .u32 zRq.bc), (.int .u32 zRq.bn), (.int .u64 zRq.sp), (.int .u32 zRq.sl), (.int .u64 zRq.ap), (.int .u32 zRq.al), (.string zRq.key), (.string zRq.tt), (.int .i64 zRq.lim), (.int .u8 zRq.parts), (.slice none zRq.ws.length 0), (.slice none zRq.sk.length 0), (.int .i64 r.1.k), (.int .i64 r.1.er), (.bool r.1.fd), (.string r.1.val), (.slice A3 r.1.ps.length c3), (.int .u32 r.1.wc), (.int .u32 r.1.wn), (.int .u64 r.1.sp), (.int .u32 r.1.sl), (.int .u64 r.1.ap), (.int .u32 r.1.al), (.string r.1.pr), (.int .u64 r.1.np), (.int .u32 r.1.nl)] HS12.out.z (by kernel_rfl) (by show 0 + 31 ≤ 31; decide) (by kernel_rfl) (by kernel_rfl) ?_; intro w19 hq hk hb; have HZ9 := Lib.hid hq; have HB9 := Lib.hid (hb _ _ HA.out.a HS12.out.b); have HR319 := Lib.hid (R_thru2 HR312.out HS12.out.z (by decide) hk); clear hq hk hb))
          refine bodyPost_ret (results_ct rfl _ _ w.heap.size 37 _ (0, 0) _ rfl HZ9.out Try.underlying37 rfl (by kernel_rfl)) rfl ?_
          obtain ⟨A, c, e, h1, h2⟩ := Kd.R_reads HR319.out
          cases e
          exact ⟨none, 0, none, 0, _, _, by rw [HR2.out]; rfl, by rw [HR2.out]; exact ⟨Kd.C_nil _ _, Nat.le_refl _, Kd.C_nil _ _, Nat.le_refl _, h2, h1⟩, HB9.out⟩
      · have HR2 : Hid (readR s = (zLt, 2)) := Lib.hid (by rw [HRD.out, if_neg he])
        go_wp2_with ((with_reducible refine gate_store (t := 37) (p := 2) (v := .tmp 40) rfl ?_); refine store_ev2 (P := Try.prog) rfl 37 (.tmp 2) (.tmp 40) rfl rfl w.heap.size 0 (.agg #[(.int .u32 0), (.int .u32 0), (.int .u32 0), (.bool false), (.int .i64 0), (.int .u32 0), (.int .u32 0), (.int .u64 0), (.int .u32 0), (.int .u64 0), (.int .u32 0), (.string ⟨#[]⟩), (.string ⟨#[]⟩), (.int .i64 0), (.int .u8 0), (.slice none 0 0), (.slice none 0 0), (.int .i64 0), (.int .i64 0), (.bool false), (.string ⟨#[]⟩), (.slice none 0 0), (.int .u32 0), (.int .u32 0), (.int .u64 0), (.int .u32 0), (.int .u64 0), (.int .u32 0), (.string ⟨#[]⟩), (.int .u64 0), (.int .u32 0)]) #[(.int .u32 0), (.int .u32 0), (.int .u32 0), (.bool false), (.int .i64 0), (.int .u32 0), (.int .u32 0), (.int .u64 0), (.int .u32 0), (.int .u64 0), (.int .u32 0), (.string ⟨#[]⟩), (.string ⟨#[]⟩), (.int .i64 0), (.int .u8 0), (.slice none 0 0), (.slice none 0 0), (.int .i64 0), (.int .i64 0), (.bool false), (.string ⟨#[]⟩), (.slice none 0 0), (.int .u32 0), (.int .u32 0), (.int .u64 0), (.int .u32 0), (.int .u64 0), (.int .u32 0), (.string ⟨#[]⟩), (.int .u64 0), (.int .u32 0)] rfl rfl rfl 37 _ #[(.int .u32 0), (.int .u32 0), (.int .u32 0), (.bool false), (.int .i64 0), (.int .u32 0), (.int .u32 0), (.int .u64 0), (.int .u32 0), (.int .u64 0), (.int .u32 0), (.string ⟨#[]⟩), (.string ⟨#[]⟩), (.int .i64 0), (.int .u8 0), (.slice none 0 0), (.slice none 0 0), (.int .i64 0), (.int .i64 0), (.bool false), (.string ⟨#[]⟩), (.slice none 0 0), (.int .u32 0), (.int .u32 0), (.int .u64 0), (.int .u32 0), (.int .u64 0), (.int .u32 0), (.string ⟨#[]⟩), (.int .u64 0), (.int .u32 0)] HS11.out.z (by kernel_rfl) (by show 0 + 31 ≤ 31; decide) (by kernel_rfl) (by kernel_rfl) ?_; intro w19 hq hk hb; have HZ9 := Lib.hid hq; have HB9 := Lib.hid (hb _ _ HA.out.a HS11.out.b); clear hq hk hb)
        refine bodyPost_ret (results_ct rfl _ _ w.heap.size 37 _ (0, 0) _ rfl HZ9.out Try.underlying37 rfl (by kernel_rfl)) rfl ?_
        exact ⟨none, 0, none, 0, none, 0, by rw [HR2.out]; rfl, by rw [HR2.out]; exact HZ.out _, HB9.out⟩
  | false =>
    as_aux_lemma =>
      go_wp2_with ((with_reducible refine gate_store (t := 4) (p := 23) (v := .tmp 22) rfl ?_); refine store_ev2 (P := Try.prog) rfl 4 (.tmp 23) (.tmp 22) rfl rfl b3 3 (.bool false) #[(.bool false)] rfl rfl rfl 37 _ #[(.int .u32 a.1), (.int .u32 b.1), (.int .u32 c.1), (.bool false), (.int .i64 0), (.int .u32 0), (.int .u32 0), (.int .u64 0), (.int .u32 0), (.int .u64 0), (.int .u32 0), (.string ⟨#[]⟩), (.string ⟨#[]⟩), (.int .i64 0), (.int .u8 0), (.slice none 0 0), (.slice none 0 0), (.int .i64 0), (.int .i64 0), (.bool false), (.string ⟨#[]⟩), (.slice none 0 0), (.int .u32 0), (.int .u32 0), (.int .u64 0), (.int .u32 0), (.int .u64 0), (.int .u32 0), (.string ⟨#[]⟩), (.int .u64 0), (.int .u32 0)] HS7.out.q (by kernel_rfl) (by show 3 + 1 ≤ 31; decide) (by kernel_rfl) (by kernel_rfl) ?_; intro w8 hq hk hb; have HS8 := Lib.hid (HS7.out.store HA.out hq hk hb); have x3 := (blk_cell HS8.out.q 3).trans (show _ = some (.bool false) from rfl); clear hq hk hb)
      clear HS7 x3
      refine (dreadAsk w w8 g d.2.1 d.2.2 hdz HS8.out.i HS8.out.b).mono ?_
      unfold DAskP
      have HOKx := Lib.hid (askOk d.2.1 d.2.2)
      obtain ⟨q, hr⟩ : ∃ x, x = rdAsk d.2.1 d.2.2 := ⟨_, rfl⟩
      rw [← hr] at HOKx ⊢
      have ER := Lib.hid hr
      clear hr
      rintro e w9 ⟨v1, v2, rfl, hR1, hR2, hl⟩
      obtain ⟨A1, c1, rfl, hz1, _⟩ := Kd.R_reads hR1
      obtain ⟨A2, c2, rfl, hz2, _⟩ := Kd.R_reads hR2
      have HR19 := Lib.hid hR1
      have HR29 := Lib.hid hR2
      clear hR1 hR2 hz1 hz2
      have HS9 := Lib.hid (HS8.out.call HA.out hl)
      clear hl HS8
      go_wp2_with ((with_reducible refine gate_store (t := 31) (p := 31) (v := .tmp 30) rfl ?_); refine store_ev2 (P := Try.prog) rfl 31 (.tmp 31) (.tmp 30) rfl rfl b3 4 (.agg #[(.int .i64 q.1.k), (.int .u32 q.1.bc), (.int .u32 q.1.bn), (.int .u64 q.1.sp), (.int .u32 q.1.sl), (.int .u64 q.1.ap), (.int .u32 q.1.al), (.string q.1.key), (.string q.1.tt), (.int .i64 q.1.lim), (.int .u8 q.1.parts), (.slice A1 q.1.ws.length c1), (.slice A2 q.1.sk.length c2)]) #[(.int .i64 q.1.k), (.int .u32 q.1.bc), (.int .u32 q.1.bn), (.int .u64 q.1.sp), (.int .u32 q.1.sl), (.int .u64 q.1.ap), (.int .u32 q.1.al), (.string q.1.key), (.string q.1.tt), (.int .i64 q.1.lim), (.int .u8 q.1.parts), (.slice A1 q.1.ws.length c1), (.slice A2 q.1.sk.length c2)] rfl rfl rfl 37 _ #[(.int .u32 a.1), (.int .u32 b.1), (.int .u32 c.1), (.bool false), (.int .i64 q.1.k), (.int .u32 q.1.bc), (.int .u32 q.1.bn), (.int .u64 q.1.sp), (.int .u32 q.1.sl), (.int .u64 q.1.ap), (.int .u32 q.1.al), (.string q.1.key), (.string q.1.tt), (.int .i64 q.1.lim), (.int .u8 q.1.parts), (.slice A1 q.1.ws.length c1), (.slice A2 q.1.sk.length c2), (.int .i64 zRp.k), (.int .i64 zRp.er), (.bool zRp.fd), (.string zRp.val), (.slice none zRp.ps.length 0), (.int .u32 zRp.wc), (.int .u32 zRp.wn), (.int .u64 zRp.sp), (.int .u32 zRp.sl), (.int .u64 zRp.ap), (.int .u32 zRp.al), (.string zRp.pr), (.int .u64 zRp.np), (.int .u32 zRp.nl)] HS9.out.q (by kernel_rfl) (by show 4 + 13 ≤ 31; decide) (by kernel_rfl) (by kernel_rfl) ?_; intro w10 hq hk hb; have HS10 := Lib.hid (HS9.out.store HA.out hq hk hb); have HR110 := Lib.hid (R_thru2 HR19.out HS9.out.q (by decide) hk); have HR210 := Lib.hid (R_thru2 HR29.out HS9.out.q (by decide) hk); clear hq hk hb)
      clear HS9 HR19 HR29
      refine (dend HS10.out.i HS10.out.b).mono ?_
      rintro e w11 ⟨rfl, hl⟩
      have hk := hl.2.2
      have HR111 := Lib.hid (R_thru2 HR110.out HS10.out.i.1 (by decide) hk)
      have HR211 := Lib.hid (R_thru2 HR210.out HS10.out.i.1 (by decide) hk)
      have HS11 := Lib.hid (HS10.out.call HA.out hl)
      clear hl hk HS10 HR110 HR210
      obtain ⟨en, hen⟩ : ∃ en, en = rdEnd q.2.1 q.2.2 := ⟨_, rfl⟩
      rw [← hen]
      have HEN := Lib.hid hen
      clear hen
      have HRD : Hid (readR s = if en = 0 then (if rightR ⟨a.1, b.1, c.1, false, q.1, zRp⟩ = true then (⟨a.1, b.1, c.1, false, q.1, zRp⟩, 0) else (zLt, 2)) else (zLt, 2)) := Lib.hid (by
        have hp : rdParts s = (⟨a.1, b.1, c.1, false, q.1, zRp⟩, q.2.1, q.2.2) := by
          simp only [rdParts, ← EA.out, ← EB.out, ← EC.out, ← ED.out, hd1, if_true, Bool.false_eq_true, if_false, ← ER.out]
        unfold readR
        rw [hp, ← HEN.out])
      have HZ : Hid (∀ W : World, LtIn W zLt none 0 none 0 none 0) := Lib.hid (fun W => ⟨Kd.C_nil _ _, Nat.le_refl _, Kd.C_nil _ _, Nat.le_refl _, Kd.C_nil _ _, Nat.le_refl _⟩)
      have HOK : Hid (LOk ⟨a.1, b.1, c.1, false, q.1, zRp⟩) := Lib.hid ⟨hoka, hokb, hokc, HOKx.out, zpOk⟩
      clear hd1
      rcases (show en = 0 ∨ en ≠ 0 from by omega) with he | he
      · subst he
        have HL : Hid (LtIn w11 ⟨a.1, b.1, c.1, false, q.1, zRp⟩ A1 c1 A2 c2 none 0) := Lib.hid (by obtain ⟨A, c, e, h1, h2⟩ := Kd.R_reads HR111.out; cases e; obtain ⟨A, c, e, h3, h4⟩ := Kd.R_reads HR211.out; cases e; exact ⟨h2, h1, h4, h3, Kd.C_nil _ _, Nat.le_refl _⟩)
        cases hri : rightR ⟨a.1, b.1, c.1, false, q.1, zRp⟩ with
        | false =>
          have HR2 : Hid (readR s = (zLt, 2)) := Lib.hid (by rw [HRD.out, if_pos rfl, if_neg (by rw [hri]; decide)])
          have HRI := Lib.hid (rrightL_calls ⟨a.1, b.1, c.1, false, q.1, zRp⟩ A1 A2 none c1 c2 0 w11 HOK.out HL.out.h1 HL.out.h2 HL.out.h3)
          rw [hri] at HRI
          clear hri
          go_wp2_with (first | ((with_reducible refine gate_dst (N := 36) rfl ?_); refine wpList_load_row rfl 37 (.tmp 5) rfl b3 rfl 37 _ (0, 0) _ HS11.out.q Try.underlying37 rfl (by kernel_rfl) ?_) | ((with_reducible refine gate_dst (N := 36) rfl ?_); refine gate_guard (by rfl) ?_; refine wpList_load_row rfl 37 (.tmp 5) rfl b3 rfl 37 _ (0, 0) _ HS11.out.q Try.underlying37 rfl (by kernel_rfl) ?_))
          refine HRI.out.mono ?_
          rintro e w12 ⟨rfl, hBr⟩
          have HS12 := Lib.hid (HS11.out.below hBr)
          have HL12 := Lib.hid (HL.out.below hBr)
          have HR112 := Lib.hid (Kd.R_below HR111.out hBr)
          have HR212 := Lib.hid (Kd.R_below HR211.out hBr)
          clear hBr
          go_wp2_with ((with_reducible refine gate_store (t := 37) (p := 2) (v := .tmp 40) rfl ?_); refine store_ev2 (P := Try.prog) rfl 37 (.tmp 2) (.tmp 40) rfl rfl w.heap.size 0 (.agg #[(.int .u32 0), (.int .u32 0), (.int .u32 0), (.bool false), (.int .i64 0), (.int .u32 0), (.int .u32 0), (.int .u64 0), (.int .u32 0), (.int .u64 0), (.int .u32 0), (.string ⟨#[]⟩), (.string ⟨#[]⟩), (.int .i64 0), (.int .u8 0), (.slice none 0 0), (.slice none 0 0), (.int .i64 0), (.int .i64 0), (.bool false), (.string ⟨#[]⟩), (.slice none 0 0), (.int .u32 0), (.int .u32 0), (.int .u64 0), (.int .u32 0), (.int .u64 0), (.int .u32 0), (.string ⟨#[]⟩), (.int .u64 0), (.int .u32 0)]) #[(.int .u32 0), (.int .u32 0), (.int .u32 0), (.bool false), (.int .i64 0), (.int .u32 0), (.int .u32 0), (.int .u64 0), (.int .u32 0), (.int .u64 0), (.int .u32 0), (.string ⟨#[]⟩), (.string ⟨#[]⟩), (.int .i64 0), (.int .u8 0), (.slice none 0 0), (.slice none 0 0), (.int .i64 0), (.int .i64 0), (.bool false), (.string ⟨#[]⟩), (.slice none 0 0), (.int .u32 0), (.int .u32 0), (.int .u64 0), (.int .u32 0), (.int .u64 0), (.int .u32 0), (.string ⟨#[]⟩), (.int .u64 0), (.int .u32 0)] rfl rfl rfl 37 _ #[(.int .u32 0), (.int .u32 0), (.int .u32 0), (.bool false), (.int .i64 0), (.int .u32 0), (.int .u32 0), (.int .u64 0), (.int .u32 0), (.int .u64 0), (.int .u32 0), (.string ⟨#[]⟩), (.string ⟨#[]⟩), (.int .i64 0), (.int .u8 0), (.slice none 0 0), (.slice none 0 0), (.int .i64 0), (.int .i64 0), (.bool false), (.string ⟨#[]⟩), (.slice none 0 0), (.int .u32 0), (.int .u32 0), (.int .u64 0), (.int .u32 0), (.int .u64 0), (.int .u32 0), (.string ⟨#[]⟩), (.int .u64 0), (.int .u32 0)] HS12.out.z (by kernel_rfl) (by show 0 + 31 ≤ 31; decide) (by kernel_rfl) (by kernel_rfl) ?_; intro w19 hq hk hb; have HZ9 := Lib.hid hq; have HB9 := Lib.hid (hb _ _ HA.out.a HS12.out.b); clear hq hk hb)
          refine bodyPost_ret (results_ct rfl _ _ w.heap.size 37 _ (0, 0) _ rfl HZ9.out Try.underlying37 rfl (by kernel_rfl)) rfl ?_
          exact ⟨none, 0, none, 0, none, 0, by rw [HR2.out]; rfl, by rw [HR2.out]; exact HZ.out _, HB9.out⟩
        | true =>
          have HR2 : Hid (readR s = (⟨a.1, b.1, c.1, false, q.1, zRp⟩, 0)) := Lib.hid (by rw [HRD.out, if_pos rfl, if_pos hri])
          have HRI := Lib.hid (rrightL_calls ⟨a.1, b.1, c.1, false, q.1, zRp⟩ A1 A2 none c1 c2 0 w11 HOK.out HL.out.h1 HL.out.h2 HL.out.h3)
          rw [hri] at HRI
          clear hri
          go_wp2_with (first | ((with_reducible refine gate_dst (N := 36) rfl ?_); refine wpList_load_row rfl 37 (.tmp 5) rfl b3 rfl 37 _ (0, 0) _ HS11.out.q Try.underlying37 rfl (by kernel_rfl) ?_) | ((with_reducible refine gate_dst (N := 36) rfl ?_); refine gate_guard (by rfl) ?_; refine wpList_load_row rfl 37 (.tmp 5) rfl b3 rfl 37 _ (0, 0) _ HS11.out.q Try.underlying37 rfl (by kernel_rfl) ?_))
          refine HRI.out.mono ?_
          rintro e w12 ⟨rfl, hBr⟩
          have HS12 := Lib.hid (HS11.out.below hBr)
          have HL12 := Lib.hid (HL.out.below hBr)
          have HR112 := Lib.hid (Kd.R_below HR111.out hBr)
          have HR212 := Lib.hid (Kd.R_below HR211.out hBr)
          clear hBr
          go_wp2_with (first | ((with_reducible refine gate_dst (N := 41) rfl ?_); refine wpList_load_row rfl 37 (.tmp 5) rfl b3 rfl 37 _ (0, 0) _ HS12.out.q Try.underlying37 rfl (by kernel_rfl) ?_) | ((with_reducible refine gate_store (t := 37) (p := 2) (v := .tmp 41) rfl ?_); refine store_ev2 (P := Try.prog) rfl 37 (.tmp 2) (.tmp 41) rfl rfl w.heap.size 0 (.agg #[(.int .u32 a.1), (.int .u32 b.1), (.int .u32 c.1), (.bool false), (.int .i64 q.1.k), (.int .u32 q.1.bc), (.int .u32 q.1.bn), (.int .u64 q.1.sp), (.int .u32 q.1.sl), (.int .u64 q.1.ap), (.int .u32 q.1.al), (.string q.1.key), (.string q.1.tt), (.int .i64 q.1.lim), (.int .u8 q.1.parts), (.slice A1 q.1.ws.length c1), (.slice A2 q.1.sk.length c2), (.int .i64 zRp.k), (.int .i64 zRp.er), (.bool zRp.fd), (.string zRp.val), (.slice none zRp.ps.length 0), (.int .u32 zRp.wc), (.int .u32 zRp.wn), (.int .u64 zRp.sp), (.int .u32 zRp.sl), (.int .u64 zRp.ap), (.int .u32 zRp.al), (.string zRp.pr), (.int .u64 zRp.np), (.int .u32 zRp.nl)]) #[(.int .u32 a.1), (.int .u32 b.1), (.int .u32 c.1), (.bool false), (.int .i64 q.1.k), (.int .u32 q.1.bc), (.int .u32 q.1.bn), (.int .u64 q.1.sp), (.int .u32 q.1.sl), (.int .u64 q.1.ap), (.int .u32 q.1.al), (.string q.1.key), (.string q.1.tt), (.int .i64 q.1.lim), (.int .u8 q.1.parts), (.slice A1 q.1.ws.length c1), (.slice A2 q.1.sk.length c2), (.int .i64 zRp.k), (.int .i64 zRp.er), (.bool zRp.fd), (.string zRp.val), (.slice none zRp.ps.length 0), (.int .u32 zRp.wc), (.int .u32 zRp.wn), (.int .u64 zRp.sp), (.int .u32 zRp.sl), (.int .u64 zRp.ap), (.int .u32 zRp.al), (.string zRp.pr), (.int .u64 zRp.np), (.int .u32 zRp.nl)] rfl rfl rfl 37 _ #[(.int .u32 a.1), (.int .u32 b.1), (.int .u32 c.1), (.bool false), (.int .i64 q.1.k), (.int .u32 q.1.bc), (.int .u32 q.1.bn), (.int .u64 q.1.sp), (.int .u32 q.1.sl), (.int .u64 q.1.ap), (.int .u32 q.1.al), (.string q.1.key), (.string q.1.tt), (.int .i64 q.1.lim), (.int .u8 q.1.parts), (.slice A1 q.1.ws.length c1), (.slice A2 q.1.sk.length c2), (.int .i64 zRp.k), (.int .i64 zRp.er), (.bool zRp.fd), (.string zRp.val), (.slice none zRp.ps.length 0), (.int .u32 zRp.wc), (.int .u32 zRp.wn), (.int .u64 zRp.sp), (.int .u32 zRp.sl), (.int .u64 zRp.ap), (.int .u32 zRp.al), (.string zRp.pr), (.int .u64 zRp.np), (.int .u32 zRp.nl)] HS12.out.z (by kernel_rfl) (by show 0 + 31 ≤ 31; decide) (by kernel_rfl) (by kernel_rfl) ?_; intro w19 hq hk hb; have HZ9 := Lib.hid hq; have HB9 := Lib.hid (hb _ _ HA.out.a HS12.out.b); have HR119 := Lib.hid (R_thru2 HR112.out HS12.out.z (by decide) hk); have HR219 := Lib.hid (R_thru2 HR212.out HS12.out.z (by decide) hk); clear hq hk hb))
          refine bodyPost_ret (results_ct rfl _ _ w.heap.size 37 _ (0, 0) _ rfl HZ9.out Try.underlying37 rfl (by kernel_rfl)) rfl ?_
          obtain ⟨A, c, e, h1, h2⟩ := Kd.R_reads HR119.out
          cases e
          obtain ⟨A, c, e, h3, h4⟩ := Kd.R_reads HR219.out
          cases e
          exact ⟨_, _, _, _, none, 0, by rw [HR2.out]; rfl, by rw [HR2.out]; exact ⟨h2, h1, h4, h3, Kd.C_nil _ _, Nat.le_refl _⟩, HB9.out⟩
      · have HR2 : Hid (readR s = (zLt, 2)) := Lib.hid (by rw [HRD.out, if_neg he])
        go_wp2_with ((with_reducible refine gate_store (t := 37) (p := 2) (v := .tmp 40) rfl ?_); refine store_ev2 (P := Try.prog) rfl 37 (.tmp 2) (.tmp 40) rfl rfl w.heap.size 0 (.agg #[(.int .u32 0), (.int .u32 0), (.int .u32 0), (.bool false), (.int .i64 0), (.int .u32 0), (.int .u32 0), (.int .u64 0), (.int .u32 0), (.int .u64 0), (.int .u32 0), (.string ⟨#[]⟩), (.string ⟨#[]⟩), (.int .i64 0), (.int .u8 0), (.slice none 0 0), (.slice none 0 0), (.int .i64 0), (.int .i64 0), (.bool false), (.string ⟨#[]⟩), (.slice none 0 0), (.int .u32 0), (.int .u32 0), (.int .u64 0), (.int .u32 0), (.int .u64 0), (.int .u32 0), (.string ⟨#[]⟩), (.int .u64 0), (.int .u32 0)]) #[(.int .u32 0), (.int .u32 0), (.int .u32 0), (.bool false), (.int .i64 0), (.int .u32 0), (.int .u32 0), (.int .u64 0), (.int .u32 0), (.int .u64 0), (.int .u32 0), (.string ⟨#[]⟩), (.string ⟨#[]⟩), (.int .i64 0), (.int .u8 0), (.slice none 0 0), (.slice none 0 0), (.int .i64 0), (.int .i64 0), (.bool false), (.string ⟨#[]⟩), (.slice none 0 0), (.int .u32 0), (.int .u32 0), (.int .u64 0), (.int .u32 0), (.int .u64 0), (.int .u32 0), (.string ⟨#[]⟩), (.int .u64 0), (.int .u32 0)] rfl rfl rfl 37 _ #[(.int .u32 0), (.int .u32 0), (.int .u32 0), (.bool false), (.int .i64 0), (.int .u32 0), (.int .u32 0), (.int .u64 0), (.int .u32 0), (.int .u64 0), (.int .u32 0), (.string ⟨#[]⟩), (.string ⟨#[]⟩), (.int .i64 0), (.int .u8 0), (.slice none 0 0), (.slice none 0 0), (.int .i64 0), (.int .i64 0), (.bool false), (.string ⟨#[]⟩), (.slice none 0 0), (.int .u32 0), (.int .u32 0), (.int .u64 0), (.int .u32 0), (.int .u64 0), (.int .u32 0), (.string ⟨#[]⟩), (.int .u64 0), (.int .u32 0)] HS11.out.z (by kernel_rfl) (by show 0 + 31 ≤ 31; decide) (by kernel_rfl) (by kernel_rfl) ?_; intro w19 hq hk hb; have HZ9 := Lib.hid hq; have HB9 := Lib.hid (hb _ _ HA.out.a HS11.out.b); clear hq hk hb)
        refine bodyPost_ret (results_ct rfl _ _ w.heap.size 37 _ (0, 0) _ rfl HZ9.out Try.underlying37 rfl (by kernel_rfl)) rfl ?_
        exact ⟨none, 0, none, 0, none, 0, by rw [HR2.out]; rfl, by rw [HR2.out]; exact HZ.out _, HB9.out⟩
end Go.Proofs.Ytjfokbkfniilhaa

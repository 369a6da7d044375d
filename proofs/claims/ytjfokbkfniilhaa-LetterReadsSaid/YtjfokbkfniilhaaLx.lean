/- The document's readAsk and readReply read what letter's do. Conditions: those that each theorem names. -/
import Derived.Test.YtjfokbkfniilhaaDq
import Derived.Test.YtjfokbkfniilhaaLh
set_option linter.unusedVariables false
set_option linter.unusedSimpArgs false
set_option linter.constructorNameAsVariable false
namespace Go.Proofs.Ytjfokbkfniilhaa
open Go.RowKit Go.Deep Go.Proofs.YtjfokbkfniilhaaW.PrintWords Go.Proofs.YtjfokbkfniilhaaW.PrintLast Go.Proofs.YtjfokbkfniilhaaW.PrintMore Go.Proofs.Ytjfokbkfniilhaa.PLa
section
variable {w0 w : World} {g : Nat} {s : ByteArray} {er : Int}
theorem dtxn (hI : PDr.IsS81 w0 w g s er) (hB : Below w0.heap.size w0 w) (hs : s.size ≤ 9223372036854775807) :
    Calls Try.prog 60 #[.pointer (some ⟨g, 0, none⟩)] w fun e w' => e = .returned (.agg #[.int .u32 (rdX s er).1.f0, .int .u32 (rdX s er).1.f1]) ∧ Left2 w0 w w' g (rdX s er).2.1 (rdX s er).2.2 := by
  refine PDr.dovecoteref15_readTxn.calls 20 g s er _ _ _ _ w0 w hI hB ?_
  have h1 := rdNum_facts s er 4294967295 (by decide)
  have h2 := rdNum_facts (rdNum s er 4294967295).2.1 (rdNum s er 4294967295).2.2 4294967295 (by decide)
  unfold PDr.dovecoteref15_readTxn.f
  rw [dnum_f 20 (by decide) _ _ _ (by decide) hs, Option.bind_some, dnum_f 20 (by decide) _ _ _ (by decide) (by omega), Option.bind_some, Int.emod_eq_of_lt h1.1 (by omega), Int.emod_eq_of_lt h2.1 (by omega)]
  rfl
theorem x_sz2 (s : ByteArray) (er : Int) : (rdX s er).2.1.size ≤ s.size := x_sz s er
theorem lst_snoc {α : Type} (one : ByteArray → Int → α × ByteArray × Int) : ∀ (i : Nat) (s : ByteArray) (er : Int),
    lstR one (i + 1) s er = ((lstR one i s er).1 ++ [(one (lstR one i s er).2.1 (lstR one i s er).2.2).1], (one (lstR one i s er).2.1 (lstR one i s er).2.2).2.1, (one (lstR one i s er).2.1 (lstR one i s er).2.2).2.2) := by
  intro i
  induction i with
  | zero => intro s er; rfl
  | succ i ih => intro s er; rw [lstR, ih]; rfl
end
def dT21 : Bool × List (List Nat × List Nat) := (true, [([], []), ([0], [0]), ([], []), ([2], [2]), ([3], [3]), ([1, 4, 3], [1, 4]), ([0, 1, 2, 3, 4, 5], []), ([6, 5, 5, 0, 1, 2, 3, 4, 5], [5, 6])])
def dB21 : List Nat := [0, 1, 0, 4, 12, 31, 63, 127]
theorem dtab21 : rtab .any (opsOf Try.f39 21) = dT21 := by kernel_rfl
theorem dbits21 : waitsOk dT21.2 dB21 = true := by kernel_rfl

/-- What readAsk answers. -/
def DAskP (w0 w : World) (g : Nat) (r : Rq × ByteArray × Int) (e : Ending) (w' : World) : Prop := ∃ v1 v2 : Value, e = .returned (.agg #[.int .i64 r.1.k, .int .u32 r.1.bc, .int .u32 r.1.bn, .int .u64 r.1.sp, .int .u32 r.1.sl, .int .u64 r.1.ap, .int .u32 r.1.al, .string r.1.key, .string r.1.tt, .int .i64 r.1.lim, .int .u8 r.1.parts, v1, v2]) ∧
  Kd.R k66 66 w' w.heap.size (fun _ => True) v1 r.1.ws ∧ Kd.R k24 24 w' w.heap.size (fun _ => True) v2 r.1.sk ∧ Left2 w0 w w' g r.2.1 r.2.2
set_option maxRecDepth 100000 in
set_option maxHeartbeats 16000000 in
theorem dreadAsk (w0 w : World) (g : Nat) (s : ByteArray) (er : Int) (hs : s.size ≤ 9223372036854775807) (hI : PDr.IsS81 w0 w g s er) (hB : Below w0.heap.size w0 w) :
    Calls Try.prog 39 #[.pointer (some ⟨g, 0, none⟩)] w (DAskP w0 w g (rdAsk s er)) := by

  have HI0 := Lib.hid (hI.alloc (.cells #[(.int .i64 0), (.int .u32 0), (.int .u32 0), (.int .u64 0), (.int .u32 0), (.int .u64 0), (.int .u32 0), (.string ⟨#[]⟩), (.string ⟨#[]⟩), (.int .i64 0), (.int .u8 0), (.slice none 0 0), (.slice none 0 0)] 31))
  have HB0 := Lib.hid (below_alloc' hB (.cells #[(.int .i64 0), (.int .u32 0), (.int .u32 0), (.int .u64 0), (.int .u32 0), (.int .u64 0), (.int .u32 0), (.string ⟨#[]⟩), (.string ⟨#[]⟩), (.int .i64 0), (.int .u8 0), (.slice none 0 0), (.slice none 0 0)] 31))
  have HX0 := Lib.hid (heap_alloc_new w (.cells #[(.int .i64 0), (.int .u32 0), (.int .u32 0), (.int .u64 0), (.int .u32 0), (.int .u64 0), (.int .u32 0), (.string ⟨#[]⟩), (.string ⟨#[]⟩), (.int .i64 0), (.int .u8 0), (.slice none 0 0), (.slice none 0 0)] 31))
  have HK0 : Hid (KeepBut w (w.alloc (.cells #[(.int .i64 0), (.int .u32 0), (.int .u32 0), (.int .u64 0), (.int .u32 0), (.int .u64 0), (.int .u32 0), (.string ⟨#[]⟩), (.string ⟨#[]⟩), (.int .i64 0), (.int .u8 0), (.slice none 0 0), (.slice none 0 0)] 31)) g none) := Lib.hid (keep_alloc (KeepBut.refl w g none) _)
  have HD : Hid (g < w.heap.size) := Lib.hid (lt_at2 hI.1)
  have HSZ := Lib.hid hB.size
  clear hI hB
  go_enter Try.func39, Try.ntmps39
  go_wp2_with fail
  refine (dnumber 9 (by decide) HI0.out HB0.out hs).mono ?_
  rintro e w1 ⟨rfl, hl⟩
  have za := rdNum_facts s er 9 (by decide)
  obtain ⟨a, ha⟩ : ∃ x, x = rdNum s er 9 := ⟨_, rfl⟩
  rw [← ha] at hl za ⊢
  have EA := Lib.hid ha
  have hz1 := blk_keep2 HX0.out hl.2.2 (by have := HD.out; omega)
  have h3 := heap_alloc_new w1 (.cells #[(.int .i64 0), (.int .u32 0), (.int .u32 0), (.int .u64 0), (.int .u32 0), (.int .u64 0), (.int .u32 0), (.string ⟨#[]⟩), (.string ⟨#[]⟩), (.int .i64 0), (.int .u8 0), (.slice none 0 0), (.slice none 0 0)] 31)
  have hk1 : KeepBut w (w1.alloc (.cells #[(.int .i64 0), (.int .u32 0), (.int .u32 0), (.int .u64 0), (.int .u32 0), (.int .u64 0), (.int .u32 0), (.string ⟨#[]⟩), (.string ⟨#[]⟩), (.int .i64 0), (.int .u8 0), (.slice none 0 0), (.slice none 0 0)] 31)) g none := keep_alloc (HK0.out.trans hl.2.2 (.inl rfl)) _
  have HA : Hid (DAt w0 w g w.heap.size w1.heap.size) := Lib.hid ⟨HSZ.out, Nat.le_refl _, lt_at2 hz1, HD.out⟩
  have HS1 : Hid (DSt w0 w g w.heap.size w1.heap.size 31 #[(.int .i64 0), (.int .u32 0), (.int .u32 0), (.int .u64 0), (.int .u32 0), (.int .u64 0), (.int .u32 0), (.string ⟨#[]⟩), (.string ⟨#[]⟩), (.int .i64 0), (.int .u8 0), (.slice none 0 0), (.slice none 0 0)] a.2.1 a.2.2 #[(.int .i64 0), (.int .u32 0), (.int .u32 0), (.int .u64 0), (.int .u32 0), (.int .u64 0), (.int .u32 0), (.string ⟨#[]⟩), (.string ⟨#[]⟩), (.int .i64 0), (.int .u8 0), (.slice none 0 0), (.slice none 0 0)] (w1.alloc (.cells #[(.int .i64 0), (.int .u32 0), (.int .u32 0), (.int .u64 0), (.int .u32 0), (.int .u64 0), (.int .u32 0), (.string ⟨#[]⟩), (.string ⟨#[]⟩), (.int .i64 0), (.int .u8 0), (.slice none 0 0), (.slice none 0 0)] 31))) := Lib.hid ⟨hl.1.alloc _, below_alloc' hl.2.1 _, hk1, blk_alloc hz1 _, h3⟩
  clear hl ha hz1 h3 hk1 HI0 HB0 HX0 HK0 HD
  have hwa : wrap64 a.1 = a.1 := by unfold wrap64; omega
  go_wp2_with (first | ((with_reducible refine gate_store (t := 31) (p := 3) (v := .tmp 11) rfl ?_); refine store_ev2 (P := Try.prog) rfl 31 (.tmp 3) (.tmp 11) rfl rfl w1.heap.size 0 (.agg #[(.int .i64 a.1), (.int .u32 0), (.int .u32 0), (.int .u64 0), (.int .u32 0), (.int .u64 0), (.int .u32 0), (.string ⟨#[]⟩), (.string ⟨#[]⟩), (.int .i64 0), (.int .u8 0), (.slice none 0 0), (.slice none 0 0)]) #[(.int .i64 a.1), (.int .u32 0), (.int .u32 0), (.int .u64 0), (.int .u32 0), (.int .u64 0), (.int .u32 0), (.string ⟨#[]⟩), (.string ⟨#[]⟩), (.int .i64 0), (.int .u8 0), (.slice none 0 0), (.slice none 0 0)] rfl rfl rfl 31 _ #[(.int .i64 a.1), (.int .u32 0), (.int .u32 0), (.int .u64 0), (.int .u32 0), (.int .u64 0), (.int .u32 0), (.string ⟨#[]⟩), (.string ⟨#[]⟩), (.int .i64 0), (.int .u8 0), (.slice none 0 0), (.slice none 0 0)] HS1.out.q (by kernel_rfl) (by show 0 + 13 ≤ 13; decide) (by kernel_rfl) (by kernel_rfl) ?_; intro w2 hq hk hb; have HS2 := Lib.hid (HS1.out.store HA.out hq hk hb); clear hq hk hb))
  clear HS1
  generalize w1.heap.size = b3 at *
  refine (dtxn HS2.out.i HS2.out.b (by omega)).mono ?_
  rintro e w3 ⟨rfl, hl⟩
  have zb := x_sz a.2.1 a.2.2
  obtain ⟨b, hb⟩ : ∃ x, x = rdX a.2.1 a.2.2 := ⟨_, rfl⟩
  rw [← hb] at hl zb ⊢
  have EB := Lib.hid hb
  have HS3 := Lib.hid (HS2.out.call HA.out hl)
  clear hl hb HS2 
  go_wp2_with (first | ((with_reducible refine gate_store (t := 24) (p := 14) (v := .tmp 13) rfl ?_); refine store_ev2 (P := Try.prog) rfl 24 (.tmp 14) (.tmp 13) rfl rfl b3 1 (.agg #[.int .u32 b.1.f0, .int .u32 b.1.f1]) #[(.int .u32 b.1.f0), (.int .u32 b.1.f1)] rfl rfl rfl 31 _ #[(.int .i64 a.1), (.int .u32 b.1.f0), (.int .u32 b.1.f1), (.int .u64 0), (.int .u32 0), (.int .u64 0), (.int .u32 0), (.string ⟨#[]⟩), (.string ⟨#[]⟩), (.int .i64 0), (.int .u8 0), (.slice none 0 0), (.slice none 0 0)] HS3.out.q (by kernel_rfl) (by show 1 + 2 ≤ 13; decide) (by kernel_rfl) (by kernel_rfl) ?_; intro w4 hq hk hb; have HS4 := Lib.hid (HS3.out.store HA.out hq hk hb); clear hq hk hb))
  clear HS3
  refine (dstamp HS4.out.i HS4.out.b (by omega)).mono ?_
  rintro e w5 ⟨rfl, hl⟩
  have zc := stamp_sz b.2.1 b.2.2
  obtain ⟨c, hc⟩ : ∃ x, x = rdStamp b.2.1 b.2.2 := ⟨_, rfl⟩
  rw [← hc] at hl zc ⊢
  have EC := Lib.hid hc
  have HS5 := Lib.hid (HS4.out.call HA.out hl)
  clear hl hc HS4 
  go_wp2_with (first | ((with_reducible refine gate_store (t := 27) (p := 17) (v := .tmp 16) rfl ?_); refine store_ev2 (P := Try.prog) rfl 27 (.tmp 17) (.tmp 16) rfl rfl b3 3 (.agg #[.int .u64 c.1, .int .u32 c.2.1]) #[(.int .u64 c.1), (.int .u32 c.2.1)] rfl rfl rfl 31 _ #[(.int .i64 a.1), (.int .u32 b.1.f0), (.int .u32 b.1.f1), (.int .u64 c.1), (.int .u32 c.2.1), (.int .u64 0), (.int .u32 0), (.string ⟨#[]⟩), (.string ⟨#[]⟩), (.int .i64 0), (.int .u8 0), (.slice none 0 0), (.slice none 0 0)] HS5.out.q (by kernel_rfl) (by show 3 + 2 ≤ 13; decide) (by kernel_rfl) (by kernel_rfl) ?_; intro w6 hq hk hb; have HS6 := Lib.hid (HS5.out.store HA.out hq hk hb); clear hq hk hb))
  clear HS5
  refine (dstamp HS6.out.i HS6.out.b (by omega)).mono ?_
  rintro e w7 ⟨rfl, hl⟩
  have zd := stamp_sz c.2.2.1 c.2.2.2
  obtain ⟨d, hd⟩ : ∃ x, x = rdStamp c.2.2.1 c.2.2.2 := ⟨_, rfl⟩
  rw [← hd] at hl zd ⊢
  have ED := Lib.hid hd
  have HS7 := Lib.hid (HS6.out.call HA.out hl)
  clear hl hd HS6 
  go_wp2_with (first | ((with_reducible refine gate_store (t := 27) (p := 20) (v := .tmp 19) rfl ?_); refine store_ev2 (P := Try.prog) rfl 27 (.tmp 20) (.tmp 19) rfl rfl b3 5 (.agg #[.int .u64 d.1, .int .u32 d.2.1]) #[(.int .u64 d.1), (.int .u32 d.2.1)] rfl rfl rfl 31 _ #[(.int .i64 a.1), (.int .u32 b.1.f0), (.int .u32 b.1.f1), (.int .u64 c.1), (.int .u32 c.2.1), (.int .u64 d.1), (.int .u32 d.2.1), (.string ⟨#[]⟩), (.string ⟨#[]⟩), (.int .i64 0), (.int .u8 0), (.slice none 0 0), (.slice none 0 0)] HS7.out.q (by kernel_rfl) (by show 5 + 2 ≤ 13; decide) (by kernel_rfl) (by kernel_rfl) ?_; intro w8 hq hk hb; have HS8 := Lib.hid (HS7.out.store HA.out hq hk hb); clear hq hk hb))
  clear HS7
  refine (dtext 0 32 HS8.out.i HS8.out.b (by omega) (by decide) (by decide)).mono ?_
  rintro e w9 ⟨rfl, hl⟩
  have zf := text_sz d.2.2.1 d.2.2.2 0 32
  obtain ⟨f, hf⟩ : ∃ x, x = rdText d.2.2.1 d.2.2.2 0 32 := ⟨_, rfl⟩
  rw [← hf] at hl zf ⊢
  have EF := Lib.hid hf
  have HS9 := Lib.hid (HS8.out.call HA.out hl)
  clear hl hf HS8 
  go_wp2_with (first | ((with_reducible refine gate_store (t := 9) (p := 23) (v := .tmp 22) rfl ?_); refine store_ev2 (P := Try.prog) rfl 9 (.tmp 23) (.tmp 22) rfl rfl b3 7 (.string f.1) #[(.string f.1)] rfl rfl rfl 31 _ #[(.int .i64 a.1), (.int .u32 b.1.f0), (.int .u32 b.1.f1), (.int .u64 c.1), (.int .u32 c.2.1), (.int .u64 d.1), (.int .u32 d.2.1), (.string f.1), (.string ⟨#[]⟩), (.int .i64 0), (.int .u8 0), (.slice none 0 0), (.slice none 0 0)] HS9.out.q (by kernel_rfl) (by show 7 + 1 ≤ 13; decide) (by kernel_rfl) (by kernel_rfl) ?_; intro w10 hq hk hb; have HS10 := Lib.hid (HS9.out.store HA.out hq hk hb); clear hq hk hb))
  clear HS9
  refine (dtext 0 32 HS10.out.i HS10.out.b (by omega) (by decide) (by decide)).mono ?_
  rintro e w11 ⟨rfl, hl⟩
  have zy := text_sz f.2.1 f.2.2 0 32
  obtain ⟨y, hy⟩ : ∃ x, x = rdText f.2.1 f.2.2 0 32 := ⟨_, rfl⟩
  rw [← hy] at hl zy ⊢
  have EY := Lib.hid hy
  have HS11 := Lib.hid (HS10.out.call HA.out hl)
  clear hl hy HS10 
  go_wp2_with (first | ((with_reducible refine gate_store (t := 9) (p := 26) (v := .tmp 25) rfl ?_); refine store_ev2 (P := Try.prog) rfl 9 (.tmp 26) (.tmp 25) rfl rfl b3 8 (.string y.1) #[(.string y.1)] rfl rfl rfl 31 _ #[(.int .i64 a.1), (.int .u32 b.1.f0), (.int .u32 b.1.f1), (.int .u64 c.1), (.int .u32 c.2.1), (.int .u64 d.1), (.int .u32 d.2.1), (.string f.1), (.string y.1), (.int .i64 0), (.int .u8 0), (.slice none 0 0), (.slice none 0 0)] HS11.out.q (by kernel_rfl) (by show 8 + 1 ≤ 13; decide) (by kernel_rfl) (by kernel_rfl) ?_; intro w12 hq hk hb; have HS12 := Lib.hid (HS11.out.store HA.out hq hk hb); clear hq hk hb))
  clear HS11
  refine (dnumber 32 (by decide) HS12.out.i HS12.out.b (by omega)).mono ?_
  rintro e w13 ⟨rfl, hl⟩
  have zj := rdNum_facts y.2.1 y.2.2 32 (by decide)
  obtain ⟨j, hj⟩ : ∃ x, x = rdNum y.2.1 y.2.2 32 := ⟨_, rfl⟩
  rw [← hj] at hl zj ⊢
  have EJ := Lib.hid hj
  have HS13 := Lib.hid (HS12.out.call HA.out hl)
  clear hl hj HS12 
  have hwj : wrap64 j.1 = j.1 := by unfold wrap64; omega
  go_wp2_with (first | ((with_reducible refine gate_store (t := 3) (p := 30) (v := .tmp 29) rfl ?_); refine store_ev2 (P := Try.prog) rfl 3 (.tmp 30) (.tmp 29) rfl rfl b3 9 (.int .i64 j.1) #[(.int .i64 j.1)] rfl rfl rfl 31 _ #[(.int .i64 a.1), (.int .u32 b.1.f0), (.int .u32 b.1.f1), (.int .u64 c.1), (.int .u32 c.2.1), (.int .u64 d.1), (.int .u32 d.2.1), (.string f.1), (.string y.1), (.int .i64 j.1), (.int .u8 0), (.slice none 0 0), (.slice none 0 0)] HS13.out.q (by kernel_rfl) (by show 9 + 1 ≤ 13; decide) (by kernel_rfl) (by kernel_rfl) ?_; intro w14 hq hk hb; have HS14 := Lib.hid (HS13.out.store HA.out hq hk hb); clear hq hk hb))
  clear HS13
  refine (dnumber 255 (by decide) HS14.out.i HS14.out.b (by omega)).mono ?_
  rintro e w15 ⟨rfl, hl⟩
  have zm := rdNum_facts j.2.1 j.2.2 255 (by decide)
  obtain ⟨m, hm⟩ : ∃ x, x = rdNum j.2.1 j.2.2 255 := ⟨_, rfl⟩
  rw [← hm] at hl zm ⊢
  have EM := Lib.hid hm
  have HS15 := Lib.hid (HS14.out.call HA.out hl)
  clear hl hm HS14 
  have hwm : m.1 % 256 = m.1 := Int.emod_eq_of_lt zm.1 (by omega)
  go_wp2_with (first | ((with_reducible refine gate_store (t := 5) (p := 34) (v := .tmp 33) rfl ?_); refine store_ev2 (P := Try.prog) rfl 5 (.tmp 34) (.tmp 33) rfl rfl b3 10 (.int .u8 m.1) #[(.int .u8 m.1)] rfl rfl rfl 31 _ #[(.int .i64 a.1), (.int .u32 b.1.f0), (.int .u32 b.1.f1), (.int .u64 c.1), (.int .u32 c.2.1), (.int .u64 d.1), (.int .u32 d.2.1), (.string f.1), (.string y.1), (.int .i64 j.1), (.int .u8 m.1), (.slice none 0 0), (.slice none 0 0)] HS15.out.q (by kernel_rfl) (by show 10 + 1 ≤ 13; decide) (by kernel_rfl) (by kernel_rfl) ?_; intro w16 hq hk hb; have HS16 := Lib.hid (HS15.out.store HA.out hq hk hb); clear hq hk hb))
  clear HS15
  refine (dcount 16 HS16.out.i HS16.out.b (by omega) (by decide)).mono ?_
  rintro e w17 ⟨rfl, hl⟩
  have zn := (And.intro (count_sz m.2.1 m.2.2 16 (by decide)) (count_le m.2.1 m.2.2 16 (by decide)))
  obtain ⟨n, hn⟩ : ∃ x, x = rdCount m.2.1 m.2.2 16 := ⟨_, rfl⟩
  rw [← hn] at hl zn ⊢
  have EN := Lib.hid hn
  have HS17 := Lib.hid (HS16.out.call HA.out hl)
  clear hl hn HS16 
  obtain ⟨N, hN⟩ : ∃ N : Nat, n.1 = (N : Int) := ⟨n.1.toNat, by omega⟩
  have hN16 : N ≤ 16 := by omega
  have zn1 := zn.1
  clear zn
  rw [hN]
  have HN := Lib.hid hN
  clear hN
  go_wp2_with fail
  have HS0 := HS17
  clear HS17
  go_loopg [5] (N + 1) (fun gk v5 wr => ∃ (i : Nat) (A : Option Addr) (L cp : Nat), i ≤ N ∧ v5 = .int .i64 (i : Int) ∧ Aside0 (i + gk = N + 1) ∧ Aside0 (Kd.R k66 66 wr w.heap.size (fun _ => True) (.slice A L cp) (lstR rdW i n.2.1 n.2.2).1) ∧ Aside0 (DSt w0 w g w.heap.size b3 31 #[(.int .i64 0), (.int .u32 0), (.int .u32 0), (.int .u64 0), (.int .u32 0), (.int .u64 0), (.int .u32 0), (.string ⟨#[]⟩), (.string ⟨#[]⟩), (.int .i64 0), (.int .u8 0), (.slice none 0 0), (.slice none 0 0)] (lstR rdW i n.2.1 n.2.2).2.1 (lstR rdW i n.2.1 n.2.2).2.2 #[(.int .i64 a.1), (.int .u32 b.1.f0), (.int .u32 b.1.f1), (.int .u64 c.1), (.int .u32 c.2.1), (.int .u64 d.1), (.int .u32 d.2.1), (.string f.1), (.string y.1), (.int .i64 j.1), (.int .u8 m.1), (.slice A L cp), (.slice none 0 0)] wr))
  case atStart => exact ⟨0, none, 0, 0, Nat.zero_le _, rfl, ⟨by omega⟩, ⟨Kd.R_nil _ _ _ _ _⟩, ⟨HS0.out⟩⟩
  case round =>
  obtain ⟨i, A, L, cp, hi, rfl, ⟨hgk⟩, ⟨hR⟩, ⟨hS⟩⟩ := hrel
  have HG := Lib.hid hgk
  have hsl := lst_sz rdW w_sz i n.2.1 n.2.2
  have hll := lst_len rdW i n.2.1 n.2.2
  obtain ⟨r, hr⟩ : ∃ r, r = (lstR rdW i n.2.1 n.2.2) := ⟨_, rfl⟩
  rw [← hr] at hR hS hsl hll
  have ER := Lib.hid hr
  have HR1 := Lib.hid hR
  have HS1 := Lib.hid hS
  have HLX := Lib.hid hll
  clear hgk hR hS hr hll HS0
  by_cases hlt : i < N
  · as_aux_lemma =>
      go_wp2_with fail
      refine (dtext 0 32 HS1.out.i HS1.out.b (by omega) (by decide) (by decide)).mono ?_
      rintro e w2 ⟨rfl, hl⟩
      have HR2 := Lib.hid (R_thru2 HR1.out HS1.out.i.1 (by decide) hl.2.2)
      have zp := text_sz r.2.1 r.2.2 0 32
      obtain ⟨p, hp⟩ : ∃ x, x = rdText r.2.1 r.2.2 0 32 := ⟨_, rfl⟩
      rw [← hp] at hl zp ⊢
      have EP := Lib.hid hp
      have HS2 := Lib.hid (HS1.out.call HA.out hl)
      clear hl hp HS1 HR1
      have HX2a := Lib.hid (heap_alloc_new w2 (.cells #[.string ⟨#[]⟩, .string ⟨#[]⟩, .bool false] 66))
      have HS2a := Lib.hid (HS2.out.alloc (.cells #[.string ⟨#[]⟩, .string ⟨#[]⟩, .bool false] 66))
      have HR2a := Lib.hid (R_apart2 HR2.out (.cells #[.string ⟨#[]⟩, .string ⟨#[]⟩, .bool false] 66))
      have H36 : Hid (b3 < w2.heap.size) := Lib.hid (lt_at2 HS2.out.q)
      have HNG : Hid (w2.heap.size ≠ g) := Lib.hid (by have := lt_at2 HS2.out.i.1; omega)
      clear HS2 HR2
      go_wp2_with (first | ((with_reducible refine gate_store (t := 66) (p := 6) (v := .tmp 44) rfl ?_); refine store_ev2 (P := Try.prog) rfl 66 (.tmp 6) (.tmp 44) rfl rfl w2.heap.size 0 (.agg #[.string p.1, .string ⟨#[]⟩, .bool false]) #[.string p.1, .string ⟨#[]⟩, .bool false] rfl rfl rfl 66 _ #[.string p.1, .string ⟨#[]⟩, .bool false] HX2a.out (by kernel_rfl) (by show 0 + 3 ≤ 3; decide) (by kernel_rfl) (by kernel_rfl) ?_; intro w3 hq hk hb; have HX3 := Lib.hid hq; have HR3 := Lib.hid (R_keep2 HR2a.out hk); have HS3 := Lib.hid (HS2a.out.other HA.out hk hb H36.out); clear hq hk hb))
      clear HX2a HS2a HR2a
      generalize w2.heap.size = b6 at *
      refine (dflag HS3.out.i HS3.out.b).mono ?_
      rintro e w4 ⟨rfl, hl⟩
      have HR4 := Lib.hid (R_thru2 HR3.out HS3.out.i.1 (by decide) hl.2.2)
      have HX4 := Lib.hid (blk_keep2 HX3.out hl.2.2 HNG.out)
      have zq := flag_sz p.2.1 p.2.2
      obtain ⟨q, hq⟩ : ∃ x, x = rdFlag p.2.1 p.2.2 := ⟨_, rfl⟩
      rw [← hq] at hl zq ⊢
      have EQ := Lib.hid hq
      have HS4 := Lib.hid (HS3.out.call HA.out hl)
      clear hl hq HS3 HR3 HX3
      go_wp2_with (first | ((with_reducible refine gate_store (t := 4) (p := 47) (v := .tmp 46) rfl ?_); refine store_ev2 (P := Try.prog) rfl 4 (.tmp 47) (.tmp 46) rfl rfl b6 2 (.bool q.1) #[(.bool q.1)] rfl rfl rfl 66 _ #[.string p.1, .string ⟨#[]⟩, .bool q.1] HX4.out (by kernel_rfl) (by show 2 + 1 ≤ 3; decide) (by kernel_rfl) (by kernel_rfl) ?_; intro w5 hq hk hb; have HX5 := Lib.hid hq; have HR5 := Lib.hid (R_keep2 HR4.out hk); have HS5 := Lib.hid (HS4.out.other HA.out hk hb H36.out); clear hq hk hb))
      clear HX4 HS4 HR4
      refine (dtext 0 256 HS5.out.i HS5.out.b (by omega) (by decide) (by decide)).mono ?_
      rintro e w6 ⟨rfl, hl⟩
      have HR6 := Lib.hid (R_thru2 HR5.out HS5.out.i.1 (by decide) hl.2.2)
      have HX6 := Lib.hid (blk_keep2 HX5.out hl.2.2 HNG.out)
      have zu := text_sz q.2.1 q.2.2 0 256
      obtain ⟨u, hu⟩ : ∃ x, x = rdText q.2.1 q.2.2 0 256 := ⟨_, rfl⟩
      rw [← hu] at hl zu ⊢
      have EU := Lib.hid hu
      have HS6 := Lib.hid (HS5.out.call HA.out hl)
      clear hl hu HS5 HR5 HX5
      go_wp2_with (first | ((with_reducible refine gate_store (t := 9) (p := 50) (v := .tmp 49) rfl ?_); refine store_ev2 (P := Try.prog) rfl 9 (.tmp 50) (.tmp 49) rfl rfl b6 1 (.string u.1) #[(.string u.1)] rfl rfl rfl 66 _ #[.string p.1, .string u.1, .bool q.1] HX6.out (by kernel_rfl) (by show 1 + 1 ≤ 3; decide) (by kernel_rfl) (by kernel_rfl) ?_; intro w7 hq hk hb; have HX7 := Lib.hid hq; have HR7 := Lib.hid (R_keep2 HR6.out hk); have HS7 := Lib.hid (HS6.out.other HA.out hk hb H36.out); clear hq hk hb; have x11 := (blk_cell HS7.out.q 11).trans (show _ = some (.slice A L cp) from rfl)) | ((with_reducible refine gate_dst (N := 53) rfl ?_); refine wpList_load_row rfl 66 (.tmp 6) rfl b6 rfl 66 _ (0, 0) _ HX7.out Try.underlying66 rfl (by kernel_rfl) ?_) | ((with_reducible refine gate_dst (N := 55) rfl ?_); refine Kd.R_append k66 w.heap.size rfl (.tmp 52) (.tmp 54) 28 66 (.agg #[(.string ⟨#[]⟩), (.string ⟨#[]⟩), (.bool false)]) 40 rfl Try.underlying28 info66 rfl (by decide) (by omega) (.slice A L cp) r.1 (⟨p.1, u.1, q.1⟩ : S66) [.string p.1, .string u.1, .bool q.1] (fun _ => True) (fun _ => False) rfl rfl ?aP (fun _ hk => hk.elim) (fun _ _ => trivial) (R_free2 HR7.out) (Below.refl _ _) (keep_size HS7.out.k) ?aL ?_; (case aP => exact k66_mkM _ _ _ (⟨p.1, u.1, q.1⟩ : S66)); (case aL => have := HLX.out; omega); intro v8 w8 hR hb hg hat; have HS8 := Lib.hid (HS7.out.grown HA.out (R_free2 HR7.out) (by decide) (by decide) hg hb); obtain ⟨A8, c8, e8, hz8, _⟩ := Kd.R_reads hR; obtain rfl := e8.trans (congrArg (fun n => Value.slice A8 n c8) (List.length_append : (r.1 ++ [(⟨p.1, u.1, q.1⟩ : S66)]).length = r.1.length + 1)); clear e8 hz8; have HR8 := Lib.hid hR; clear hR hb hg hat) | ((with_reducible refine gate_store (t := 28) (p := 56) (v := .tmp 55) rfl ?_); refine store_ev2 (P := Try.prog) rfl 28 (.tmp 56) (.tmp 55) rfl rfl b3 11 (.slice A8 (r.1.length + 1) c8) #[(.slice A8 (r.1.length + 1) c8)] rfl rfl rfl 31 _ #[(.int .i64 a.1), (.int .u32 b.1.f0), (.int .u32 b.1.f1), (.int .u64 c.1), (.int .u32 c.2.1), (.int .u64 d.1), (.int .u32 d.2.1), (.string f.1), (.string y.1), (.int .i64 j.1), (.int .u8 m.1), (.slice A8 (r.1.length + 1) c8), (.slice none 0 0)] HS8.out.q (by kernel_rfl) (by show 11 + 1 ≤ 13; decide) (by kernel_rfl) (by kernel_rfl) ?_; intro w9 hq hk hb; have HS9 := Lib.hid (HS8.out.store HA.out hq hk hb); have HR9 := Lib.hid (R_thru2 HR8.out HS8.out.q (by decide) hk); clear hq hk hb))
      go_roundg (gk - 1)
      case measure => have := HG.out; omega
      have hs : lstR rdW (i + 1) n.2.1 n.2.2 = (r.1 ++ [(⟨p.1, u.1, q.1⟩ : S66)], u.2.1, u.2.2) := by rw [lst_snoc, ← ER.out]; simp only [rdW, ← EP.out, ← EQ.out, ← EU.out]
      case rel => exact ⟨i + 1, A8, _, c8, by omega, by go_num, ⟨by have := HG.out; omega⟩, ⟨by rw [hs]; exact HR9.out⟩, ⟨by rw [hs]; exact HS9.out⟩⟩
  · as_aux_lemma =>
      obtain rfl : i = N := by omega
      clear HG hlt hi
      obtain ⟨gout, hgo⟩ : ∃ x, x = gk := ⟨_, rfl⟩
      clear hgo
      obtain ⟨wo, hwo⟩ : ∃ wo : World, wo = wr := ⟨_, rfl⟩
      rw [← hwo] at HS1 HR1 ⊢
      clear hwo
      go_wp2_with fail
      refine (dcount 16 HS1.out.i HS1.out.b (by omega) (by decide)).mono ?_
      rintro e w2 ⟨rfl, hl⟩
      have HR2 := Lib.hid (R_thru2 HR1.out HS1.out.i.1 (by decide) hl.2.2)
      have zo := (And.intro (count_sz r.2.1 r.2.2 16 (by decide)) (count_le r.2.1 r.2.2 16 (by decide)))
      obtain ⟨o, ho⟩ : ∃ x, x = rdCount r.2.1 r.2.2 16 := ⟨_, rfl⟩
      rw [← ho] at hl zo ⊢
      have EO := Lib.hid ho
      have HS2 := Lib.hid (HS1.out.call HA.out hl)
      clear hl ho HS1 HR1
      obtain ⟨M, hM⟩ : ∃ M : Nat, o.1 = (M : Int) := ⟨o.1.toNat, by omega⟩
      have hM16 : M ≤ 16 := by omega
      have zo1 := zo.1
      clear zo
      rw [hM]
      have HM := Lib.hid hM
      clear hM
      go_wp2_with fail
      go_loopg [7] (M + 1) (fun gk2 v7 wr2 => ∃ (i2 : Nat) (A2 : Option Addr) (L2 c2 : Nat), i2 ≤ M ∧ v7 = .int .i64 (i2 : Int) ∧ Aside0 (i2 + gk2 = M + 1) ∧ Aside0 (Kd.R k66 66 wr2 w.heap.size (fun _ => True) (.slice A L cp) r.1) ∧ Aside0 (Kd.R k24 24 wr2 w.heap.size (fun _ => True) (.slice A2 L2 c2) (lstR rdX i2 o.2.1 o.2.2).1) ∧ Aside0 (DSt w0 w g w.heap.size b3 31 #[(.int .i64 0), (.int .u32 0), (.int .u32 0), (.int .u64 0), (.int .u32 0), (.int .u64 0), (.int .u32 0), (.string ⟨#[]⟩), (.string ⟨#[]⟩), (.int .i64 0), (.int .u8 0), (.slice none 0 0), (.slice none 0 0)] (lstR rdX i2 o.2.1 o.2.2).2.1 (lstR rdX i2 o.2.1 o.2.2).2.2 #[(.int .i64 a.1), (.int .u32 b.1.f0), (.int .u32 b.1.f1), (.int .u64 c.1), (.int .u32 c.2.1), (.int .u64 d.1), (.int .u32 d.2.1), (.string f.1), (.string y.1), (.int .i64 j.1), (.int .u8 m.1), (.slice A L cp), (.slice A2 L2 c2)] wr2))
      case atStart => exact ⟨0, none, 0, 0, Nat.zero_le _, rfl, ⟨by omega⟩, ⟨HR2.out⟩, ⟨Kd.R_nil _ _ _ _ _⟩, ⟨HS2.out⟩⟩
      case round =>
      obtain ⟨i2, A2, L2, c2, hi2, rfl, ⟨hgk⟩, ⟨hR⟩, ⟨hX⟩, ⟨hS⟩⟩ := hrel
      have HG := Lib.hid hgk
      have hsl2 := lst_sz rdX x_sz i2 o.2.1 o.2.2
      have hll := lst_len rdX i2 o.2.1 o.2.2
      obtain ⟨t, ht⟩ : ∃ t, t = (lstR rdX i2 o.2.1 o.2.2) := ⟨_, rfl⟩
      rw [← ht] at hX hS hsl2 hll
      have ET := Lib.hid ht
      have HR3 := Lib.hid hR
      have HX3 := Lib.hid hX
      have HS3 := Lib.hid hS
      have HLT := Lib.hid hll
      clear hgk hR hX hS ht hll HS2 HR2
      by_cases hlt : i2 < M
      · as_aux_lemma =>
          go_wp2_with fail
          have HR4 := Lib.hid (Kd.R_drew HR3.out)
          have HX4 := Lib.hid (Kd.R_drew HX3.out)
          have HS4 := Lib.hid HS3.out.drew
          clear HR3 HX3 HS3
          refine start_ (n := 8) (S := fun w' => w'.cell? ⟨b3, 12, none⟩ = some (.slice A2 L2 c2)) (ds := [7]) #[false, false, false, false, false, false, false, false] (by kernel_rfl) rfl rfl ((blk_cell HS4.out.q 12).trans rfl) (fun hHeld => ?_)
          refine with_tabW dtab21 dbits21 (fun HT_ HW_ => ?_)
          generalize wr.drew = w4 at HR4 HX4 HS4 hHeld ⊢
          refine pure_ (i := 0) (N := some 64) (v := ?_) (a' := ?_) #[true, false, false, false, false, false, false, false] rfl rfl (any_of HT_.out (by kernel_rfl)) (fun _ _ _ h => h) (Or.inl ⟨by rfl, ?_⟩) ?_ ?_
          rotate_left
          · intro w'
            go_simp
            with_reducible rfl
          rotate_left
          · simp only [Act.put, List.setIfInBounds_toArray, List.set_cons_zero, List.set_cons_succ, i64_w, i32_w]
            rfl
          refine pure_ (i := 2) (N := some 66) (v := ?_) (a' := ?_) #[true, false, true, false, false, false, false, false] rfl rfl (any_of HT_.out (by kernel_rfl)) (fun _ _ _ h => h) (Or.inl ⟨by rfl, ?_⟩) ?_ ?_
          rotate_left
          · intro w'
            go_simp
            with_reducible rfl
          rotate_left
          · simp only [Act.put, List.setIfInBounds_toArray, List.set_cons_zero, List.set_cons_succ, i64_w, i32_w]
            rfl
          refine take_ (i := 1) (N := some 65) (v := ?_) (a' := ?_) #[true, true, true, false, false, false, false, false] rfl rfl (take_ofW HT_.out HW_.out (by kernel_rfl)) (fun _ _ _ h => h) (Or.inl ⟨by rfl, ?_⟩) hHeld ?_ ?_
          rotate_left
          · intro w' s0
            go_simp
            with_reducible rfl
          rotate_left
          · simp only [Act.put, List.setIfInBounds_toArray, List.set_cons_zero, List.set_cons_succ, i64_w, i32_w]
            rfl
          refine one_ (i := 3) (N := some 67) #[true, true, true, true, false, false, false, false] rfl rfl (one_of HT_.out (by kernel_rfl)) (by decide) (fun K hK => ?_)
          refine goes_ Try.func60 (by kernel_rfl) rfl #[.pointer (some ⟨g, 0, none⟩)] (by rfl) rfl rfl (by (try simp only [List.map_toArray, List.map_cons, List.map_nil]); first | done | rfl | (simp only [List.length_drop, List.length_take]; rfl)) ?_
          refine (dtxn HS4.out.i HS4.out.b (by omega)).mono ?_
          rintro e w5 ⟨rfl, hl⟩
          have HR5 := Lib.hid (R_thru2 HR4.out HS4.out.i.1 (by decide) hl.2.2)
          have HX5 := Lib.hid (R_thru2 HX4.out HS4.out.i.1 (by decide) hl.2.2)
          have zv := x_sz t.2.1 t.2.2
          obtain ⟨v, hv⟩ : ∃ x, x = rdX t.2.1 t.2.2 := ⟨_, rfl⟩
          rw [← hv] at hl zv ⊢
          have EV := Lib.hid hv
          have HS5 := Lib.hid (HS4.out.call HA.out hl)
          clear hl hv HS4 HR4 HX4
          refine ⟨_, rfl, ?_⟩
          refine hK.out _ _ ((blk_cell HS5.out.q 12).trans rfl) (fun hHeld => ?_)
          clear hK K
          refine norm_ (a' := ?_) ?_ ?_
          rotate_left
          · show Act.put _ (some 67) _ = _
            simp only [Act.put, List.setIfInBounds_toArray, List.set_cons_zero, List.set_cons_succ, i64_w, i32_w]
            rfl
          refine one_ (i := 4) (N := some 68) #[true, true, true, true, true, false, false, false] rfl rfl (one_of HT_.out (by kernel_rfl)) (by decide) (fun K hK => ?_)
          refine value_ (w1 := ?_) (v := ?_) (by rfl) rfl ?_ ?_
          rotate_left 2
          · go_simp
            constructor
            · rfl
            · rfl
          refine hK.out _ _ ((blk_cell (blk_alloc HS5.out.q _) 12).trans rfl) (fun hHeld => ?_)
          clear hK K
          refine norm_ (a' := ?_) ?_ ?_
          rotate_left
          · show Act.put _ (some 68) _ = _
            simp only [Act.put, List.setIfInBounds_toArray, List.set_cons_zero, List.set_cons_succ, i64_w, i32_w]
            rfl
          refine one_ (i := 5) (N := some 69) #[true, true, true, true, true, true, false, false] rfl rfl (one_of HT_.out (by kernel_rfl)) (by decide) (fun K hK => ?_)
          refine Kd.R_append_step k24 w.heap.size (by rfl) (.tmp 65) (.tmp 68) 29 24 (.agg #[(.int .u32 0), (.int .u32 0)]) 8 rfl Try.underlying29 info24 rfl (by decide) (by omega) (.slice A2 L2 c2) t.1 (⟨v.1.f0, v.1.f1⟩ : S24) [.int .u32 v.1.f0, .int .u32 v.1.f1] (fun _ => True) (fun _ => False) rfl rfl ?aP (fun _ hk => hk.elim) (fun _ _ => trivial) HX5.out (Below.refl _ _) (keep_size HS5.out.k) ?aL ?_
          (case aP => exact k24_mkM _ _ _ (⟨v.1.f0, v.1.f1⟩ : S24))
          (case aL => have := HLT.out; omega)
          intro v8 w8 hR hb hg hat
          have HS8 := Lib.hid (HS5.out.grown HA.out HX5.out (by decide) (by decide) hg hb)
          have HR8 := Lib.hid (Kd.R_over' HR5.out (Kd.R_typed HX5.out) (by decide) hg)
          obtain ⟨A8, c8, e8, hz8, _⟩ := Kd.R_reads hR
          obtain rfl := e8.trans (congrArg (fun n => Value.slice A8 n c8) (List.length_append : (t.1 ++ [(⟨v.1.f0, v.1.f1⟩ : S24)]).length = t.1.length + 1))
          have HX8 := Lib.hid hR
          clear e8 hz8 hR hb hg hat HS5 HR5 HX5
          refine hK.out _ _ ((blk_cell HS8.out.q 12).trans rfl) (fun hHeld => ?_)
          clear hK K
          refine norm_ (a' := ?_) ?_ ?_
          rotate_left
          · show Act.put _ (some 69) _ = _
            simp only [Act.put, List.setIfInBounds_toArray, List.set_cons_zero, List.set_cons_succ, i64_w, i32_w]
            rfl
          refine pure_ (i := 6) (N := some 70) (v := ?_) (a' := ?_) #[true, true, true, true, true, true, true, false] rfl rfl (any_of HT_.out (by kernel_rfl)) (fun _ _ _ h => h) (Or.inl ⟨by rfl, ?_⟩) ?_ ?_
          rotate_left
          · intro w'
            go_simp
            with_reducible rfl
          rotate_left
          · simp only [Act.put, List.setIfInBounds_toArray, List.set_cons_zero, List.set_cons_succ, i64_w, i32_w]
            rfl
          refine last_ (i := 7) (N := none) #[true, true, true, true, true, true, true, true] rfl rfl (one_of HT_.out (by kernel_rfl)) (by decide) (fun K hK => ?_)
          have hs62 : w8.cell? ⟨b3, 12, none⟩ = some (.slice A2 L2 c2) := (blk_cell HS8.out.q 12).trans rfl
          have hfs62 := blk_frozen HS8.out.q 12
          refine skip_ (w1 := ?_) (by rfl) rfl ?_ ?_
          rotate_left
          · go_simp
            rfl
          refine hK.out _ _ ?_
          clear hK K hs62 hfs62
          have HS9 := Lib.hid (HS8.out.store (W1 := w8.setCell ⟨b3, 12, none⟩ (.slice A8 (t.1.length + 1) c8)) (Q1 := #[(.int .i64 a.1), (.int .u32 b.1.f0), (.int .u32 b.1.f1), (.int .u64 c.1), (.int .u32 c.2.1), (.int .u64 d.1), (.int .u32 d.2.1), (.string f.1), (.string y.1), (.int .i64 j.1), (.int .u8 m.1), (.slice A L cp), (.slice A8 (t.1.length + 1) c8)]) HA.out (blk_put HS8.out.q 12 _ rfl) ((KeepBut.refl _ _ _).set_ 12 _) (fun base w0 hb h => h.setCell hb _))
          have hk9 : KeepBut w8 (w8.setCell ⟨b3, 12, none⟩ (.slice A8 (t.1.length + 1) c8)) b3 none := (KeepBut.refl _ _ _).set_ 12 _
          have HR9 := Lib.hid (R_thru2 HR8.out HS8.out.q (by decide) hk9)
          have HX9 := Lib.hid (R_thru2 HX8.out HS8.out.q (by decide) hk9)
          clear hk9 HS8 HR8 HX8
          generalize w8.setCell ⟨b3, 12, none⟩ (.slice A8 (t.1.length + 1) c8) = w9 at *
          refine done_ (done_of HT_.out (by kernel_rfl)) ?_
          try go_wp2
          go_roundg (gk - 1)
          case measure => have := HG.out; omega
          have hs : lstR rdX (i2 + 1) o.2.1 o.2.2 = (t.1 ++ [(⟨v.1.f0, v.1.f1⟩ : S24)], v.2.1, v.2.2) := by rw [lst_snoc, ← ET.out, ← EV.out]
          case rel => exact ⟨i2 + 1, A8, _, c8, by omega, by go_num, ⟨by have := HG.out; omega⟩, ⟨HR9.out⟩, ⟨by rw [hs]; exact HX9.out⟩, ⟨by rw [hs]; exact HS9.out⟩⟩
      · as_aux_lemma =>
          obtain rfl : i2 = M := by omega
          clear HG hlt hi2
          go_wp2_with (first | ((with_reducible refine gate_dst (N := 71) rfl ?_); refine wpList_load_row rfl 31 (.tmp 3) rfl b3 rfl 31 _ (0, 0) _ HS3.out.q Try.underlying31 rfl (by kernel_rfl) ?_) | ((with_reducible refine gate_store (t := 31) (p := 2) (v := .tmp 71) rfl ?_); refine store_ev2 (P := Try.prog) rfl 31 (.tmp 2) (.tmp 71) rfl rfl w.heap.size 0 (.agg #[(.int .i64 a.1), (.int .u32 b.1.f0), (.int .u32 b.1.f1), (.int .u64 c.1), (.int .u32 c.2.1), (.int .u64 d.1), (.int .u32 d.2.1), (.string f.1), (.string y.1), (.int .i64 j.1), (.int .u8 m.1), (.slice A L cp), (.slice A2 L2 c2)]) #[(.int .i64 a.1), (.int .u32 b.1.f0), (.int .u32 b.1.f1), (.int .u64 c.1), (.int .u32 c.2.1), (.int .u64 d.1), (.int .u32 d.2.1), (.string f.1), (.string y.1), (.int .i64 j.1), (.int .u8 m.1), (.slice A L cp), (.slice A2 L2 c2)] rfl rfl rfl 31 _ #[(.int .i64 a.1), (.int .u32 b.1.f0), (.int .u32 b.1.f1), (.int .u64 c.1), (.int .u32 c.2.1), (.int .u64 d.1), (.int .u32 d.2.1), (.string f.1), (.string y.1), (.int .i64 j.1), (.int .u8 m.1), (.slice A L cp), (.slice A2 L2 c2)] HS3.out.z (by kernel_rfl) (by show 0 + 13 ≤ 13; decide) (by kernel_rfl) (by kernel_rfl) ?_; intro w4 hq hk hb; have HZ := Lib.hid hq; have HK := Lib.hid hk; have HB := Lib.hid (hb _ _ HSZ.out HS3.out.b); clear hq hk hb))
          have hNE : g ≠ w.heap.size := by have := HA.out.d; omega
          refine bodyPost_ret (results_cell_row rfl _ _ w.heap.size 31 _ (0, 0) _ rfl HZ.out Try.underlying31 rfl (by kernel_rfl)) rfl ?_
          have hr : rdAsk s er = (⟨a.1, b.1.f0, b.1.f1, c.1, c.2.1, d.1, d.2.1, f.1, y.1, j.1, m.1, r.1, t.1⟩, t.2.1, t.2.2) := by
            have e1 := EN.out
            have e2 := EO.out
            simp only [rdAsk, ← EA.out, ← EB.out, ← EC.out, ← ED.out, ← EF.out, ← EY.out, ← EJ.out, ← EM.out, ← e1, HN.out, Int.toNat_natCast, ← ER.out, ← e2, HM.out, ← ET.out]
          unfold DAskP
          rw [hr]
          exact ⟨_, _, rfl, R_thru2 HR3.out HS3.out.z (by decide) HK.out, R_thru2 HX3.out HS3.out.z (by decide) HK.out, ⟨blk_keep2 HS3.out.i.1 HK.out hNE, HS3.out.i.2⟩, HB.out, ⟨Nat.le_trans HS3.out.k.1 HK.out.1, fun i hi hg hr => (HK.out.2 i (Nat.lt_of_lt_of_le hi HS3.out.k.1) (by omega) (by simp)).trans (HS3.out.k.2 i hi hg hr)⟩⟩
/-- What readReply answers. -/
def DRepP (w0 w : World) (g : Nat) (r : Rp × ByteArray × Int) (e : Ending) (w' : World) : Prop := ∃ v1 : Value, e = .returned (.agg #[.int .i64 r.1.k, .int .i64 r.1.er, .bool r.1.fd, .string r.1.val, v1, .int .u32 r.1.wc, .int .u32 r.1.wn, .int .u64 r.1.sp, .int .u32 r.1.sl, .int .u64 r.1.ap, .int .u32 r.1.al, .string r.1.pr, .int .u64 r.1.np, .int .u32 r.1.nl]) ∧
  Kd.R k68 68 w' w.heap.size (fun _ => True) v1 r.1.ps ∧ Left2 w0 w w' g r.2.1 r.2.2
set_option maxRecDepth 100000 in
set_option maxHeartbeats 16000000 in
theorem dreadReply (w0 w : World) (g : Nat) (s : ByteArray) (er : Int) (hs : s.size ≤ 9223372036854775807) (hI : PDr.IsS81 w0 w g s er) (hB : Below w0.heap.size w0 w) :
    Calls Try.prog 38 #[.pointer (some ⟨g, 0, none⟩)] w (DRepP w0 w g (rdRep s er)) := by

  have HI0 := Lib.hid (hI.alloc (.cells #[(.int .i64 0), (.int .i64 0), (.bool false), (.string ⟨#[]⟩), (.slice none 0 0), (.int .u32 0), (.int .u32 0), (.int .u64 0), (.int .u32 0), (.int .u64 0), (.int .u32 0), (.string ⟨#[]⟩), (.int .u64 0), (.int .u32 0)] 35))
  have HB0 := Lib.hid (below_alloc' hB (.cells #[(.int .i64 0), (.int .i64 0), (.bool false), (.string ⟨#[]⟩), (.slice none 0 0), (.int .u32 0), (.int .u32 0), (.int .u64 0), (.int .u32 0), (.int .u64 0), (.int .u32 0), (.string ⟨#[]⟩), (.int .u64 0), (.int .u32 0)] 35))
  have HX0 := Lib.hid (heap_alloc_new w (.cells #[(.int .i64 0), (.int .i64 0), (.bool false), (.string ⟨#[]⟩), (.slice none 0 0), (.int .u32 0), (.int .u32 0), (.int .u64 0), (.int .u32 0), (.int .u64 0), (.int .u32 0), (.string ⟨#[]⟩), (.int .u64 0), (.int .u32 0)] 35))
  have HK0 : Hid (KeepBut w (w.alloc (.cells #[(.int .i64 0), (.int .i64 0), (.bool false), (.string ⟨#[]⟩), (.slice none 0 0), (.int .u32 0), (.int .u32 0), (.int .u64 0), (.int .u32 0), (.int .u64 0), (.int .u32 0), (.string ⟨#[]⟩), (.int .u64 0), (.int .u32 0)] 35)) g none) := Lib.hid (keep_alloc (KeepBut.refl w g none) _)
  have HD : Hid (g < w.heap.size) := Lib.hid (lt_at2 hI.1)
  have HSZ := Lib.hid hB.size
  clear hI hB
  go_enter Try.func38, Try.ntmps38
  go_wp2_with fail
  refine (dnumber 10 (by decide) HI0.out HB0.out hs).mono ?_
  rintro e w1 ⟨rfl, hl⟩
  have za := rdNum_facts s er 10 (by decide)
  obtain ⟨a, ha⟩ : ∃ x, x = rdNum s er 10 := ⟨_, rfl⟩
  rw [← ha] at hl za ⊢
  have EA := Lib.hid ha
  have hz1 := blk_keep2 HX0.out hl.2.2 (by have := HD.out; omega)
  have h3 := heap_alloc_new w1 (.cells #[(.int .i64 0), (.int .i64 0), (.bool false), (.string ⟨#[]⟩), (.slice none 0 0), (.int .u32 0), (.int .u32 0), (.int .u64 0), (.int .u32 0), (.int .u64 0), (.int .u32 0), (.string ⟨#[]⟩), (.int .u64 0), (.int .u32 0)] 35)
  have hk1 : KeepBut w (w1.alloc (.cells #[(.int .i64 0), (.int .i64 0), (.bool false), (.string ⟨#[]⟩), (.slice none 0 0), (.int .u32 0), (.int .u32 0), (.int .u64 0), (.int .u32 0), (.int .u64 0), (.int .u32 0), (.string ⟨#[]⟩), (.int .u64 0), (.int .u32 0)] 35)) g none := keep_alloc (HK0.out.trans hl.2.2 (.inl rfl)) _
  have HA : Hid (DAt w0 w g w.heap.size w1.heap.size) := Lib.hid ⟨HSZ.out, Nat.le_refl _, lt_at2 hz1, HD.out⟩
  have HS1 : Hid (DSt w0 w g w.heap.size w1.heap.size 35 #[(.int .i64 0), (.int .i64 0), (.bool false), (.string ⟨#[]⟩), (.slice none 0 0), (.int .u32 0), (.int .u32 0), (.int .u64 0), (.int .u32 0), (.int .u64 0), (.int .u32 0), (.string ⟨#[]⟩), (.int .u64 0), (.int .u32 0)] a.2.1 a.2.2 #[(.int .i64 0), (.int .i64 0), (.bool false), (.string ⟨#[]⟩), (.slice none 0 0), (.int .u32 0), (.int .u32 0), (.int .u64 0), (.int .u32 0), (.int .u64 0), (.int .u32 0), (.string ⟨#[]⟩), (.int .u64 0), (.int .u32 0)] (w1.alloc (.cells #[(.int .i64 0), (.int .i64 0), (.bool false), (.string ⟨#[]⟩), (.slice none 0 0), (.int .u32 0), (.int .u32 0), (.int .u64 0), (.int .u32 0), (.int .u64 0), (.int .u32 0), (.string ⟨#[]⟩), (.int .u64 0), (.int .u32 0)] 35))) := Lib.hid ⟨hl.1.alloc _, below_alloc' hl.2.1 _, hk1, blk_alloc hz1 _, h3⟩
  clear hl ha hz1 h3 hk1 HI0 HB0 HX0 HK0 HD
  have hwa : wrap64 a.1 = a.1 := by unfold wrap64; omega
  go_wp2_with (first | ((with_reducible refine gate_store (t := 35) (p := 3) (v := .tmp 10) rfl ?_); refine store_ev2 (P := Try.prog) rfl 35 (.tmp 3) (.tmp 10) rfl rfl w1.heap.size 0 (.agg #[(.int .i64 a.1), (.int .i64 0), (.bool false), (.string ⟨#[]⟩), (.slice none 0 0), (.int .u32 0), (.int .u32 0), (.int .u64 0), (.int .u32 0), (.int .u64 0), (.int .u32 0), (.string ⟨#[]⟩), (.int .u64 0), (.int .u32 0)]) #[(.int .i64 a.1), (.int .i64 0), (.bool false), (.string ⟨#[]⟩), (.slice none 0 0), (.int .u32 0), (.int .u32 0), (.int .u64 0), (.int .u32 0), (.int .u64 0), (.int .u32 0), (.string ⟨#[]⟩), (.int .u64 0), (.int .u32 0)] rfl rfl rfl 35 _ #[(.int .i64 a.1), (.int .i64 0), (.bool false), (.string ⟨#[]⟩), (.slice none 0 0), (.int .u32 0), (.int .u32 0), (.int .u64 0), (.int .u32 0), (.int .u64 0), (.int .u32 0), (.string ⟨#[]⟩), (.int .u64 0), (.int .u32 0)] HS1.out.q (by kernel_rfl) (by show 0 + 14 ≤ 14; decide) (by kernel_rfl) (by kernel_rfl) ?_; intro w2 hq hk hb; have HS2 := Lib.hid (HS1.out.store HA.out hq hk hb); clear hq hk hb))
  clear HS1
  generalize w1.heap.size = b3 at *
  refine (dnumber 255 (by decide) HS2.out.i HS2.out.b (by omega)).mono ?_
  rintro e w3 ⟨rfl, hl⟩
  have zb := rdNum_facts a.2.1 a.2.2 255 (by decide)
  obtain ⟨b, hb⟩ : ∃ x, x = rdNum a.2.1 a.2.2 255 := ⟨_, rfl⟩
  rw [← hb] at hl zb ⊢
  have EB := Lib.hid hb
  have HS3 := Lib.hid (HS2.out.call HA.out hl)
  clear hl hb HS2 
  have hwb : wrap64 b.1 = b.1 := by unfold wrap64; omega
  go_wp2_with (first | ((with_reducible refine gate_store (t := 32) (p := 14) (v := .tmp 13) rfl ?_); refine store_ev2 (P := Try.prog) rfl 32 (.tmp 14) (.tmp 13) rfl rfl b3 1 (.int .i64 b.1) #[(.int .i64 b.1)] rfl rfl rfl 35 _ #[(.int .i64 a.1), (.int .i64 b.1), (.bool false), (.string ⟨#[]⟩), (.slice none 0 0), (.int .u32 0), (.int .u32 0), (.int .u64 0), (.int .u32 0), (.int .u64 0), (.int .u32 0), (.string ⟨#[]⟩), (.int .u64 0), (.int .u32 0)] HS3.out.q (by kernel_rfl) (by show 1 + 1 ≤ 14; decide) (by kernel_rfl) (by kernel_rfl) ?_; intro w4 hq hk hb; have HS4 := Lib.hid (HS3.out.store HA.out hq hk hb); clear hq hk hb))
  clear HS3
  refine (dflag HS4.out.i HS4.out.b).mono ?_
  rintro e w5 ⟨rfl, hl⟩
  have zc := flag_sz b.2.1 b.2.2
  obtain ⟨c, hc⟩ : ∃ x, x = rdFlag b.2.1 b.2.2 := ⟨_, rfl⟩
  rw [← hc] at hl zc ⊢
  have EC := Lib.hid hc
  have HS5 := Lib.hid (HS4.out.call HA.out hl)
  clear hl hc HS4 
  go_wp2_with (first | ((with_reducible refine gate_store (t := 4) (p := 17) (v := .tmp 16) rfl ?_); refine store_ev2 (P := Try.prog) rfl 4 (.tmp 17) (.tmp 16) rfl rfl b3 2 (.bool c.1) #[(.bool c.1)] rfl rfl rfl 35 _ #[(.int .i64 a.1), (.int .i64 b.1), (.bool c.1), (.string ⟨#[]⟩), (.slice none 0 0), (.int .u32 0), (.int .u32 0), (.int .u64 0), (.int .u32 0), (.int .u64 0), (.int .u32 0), (.string ⟨#[]⟩), (.int .u64 0), (.int .u32 0)] HS5.out.q (by kernel_rfl) (by show 2 + 1 ≤ 14; decide) (by kernel_rfl) (by kernel_rfl) ?_; intro w6 hq hk hb; have HS6 := Lib.hid (HS5.out.store HA.out hq hk hb); clear hq hk hb))
  clear HS5
  refine (dtext 0 256 HS6.out.i HS6.out.b (by omega) (by decide) (by decide)).mono ?_
  rintro e w7 ⟨rfl, hl⟩
  have zd := text_sz c.2.1 c.2.2 0 256
  obtain ⟨d, hd⟩ : ∃ x, x = rdText c.2.1 c.2.2 0 256 := ⟨_, rfl⟩
  rw [← hd] at hl zd ⊢
  have ED := Lib.hid hd
  have HS7 := Lib.hid (HS6.out.call HA.out hl)
  clear hl hd HS6 
  go_wp2_with (first | ((with_reducible refine gate_store (t := 9) (p := 20) (v := .tmp 19) rfl ?_); refine store_ev2 (P := Try.prog) rfl 9 (.tmp 20) (.tmp 19) rfl rfl b3 3 (.string d.1) #[(.string d.1)] rfl rfl rfl 35 _ #[(.int .i64 a.1), (.int .i64 b.1), (.bool c.1), (.string d.1), (.slice none 0 0), (.int .u32 0), (.int .u32 0), (.int .u64 0), (.int .u32 0), (.int .u64 0), (.int .u32 0), (.string ⟨#[]⟩), (.int .u64 0), (.int .u32 0)] HS7.out.q (by kernel_rfl) (by show 3 + 1 ≤ 14; decide) (by kernel_rfl) (by kernel_rfl) ?_; intro w8 hq hk hb; have HS8 := Lib.hid (HS7.out.store HA.out hq hk hb); clear hq hk hb))
  clear HS7
  refine (dcount 32 HS8.out.i HS8.out.b (by omega) (by decide)).mono ?_
  rintro e w9 ⟨rfl, hl⟩
  have zn := (And.intro (count_sz d.2.1 d.2.2 32 (by decide)) (count_le d.2.1 d.2.2 32 (by decide)))
  obtain ⟨n, hn⟩ : ∃ x, x = rdCount d.2.1 d.2.2 32 := ⟨_, rfl⟩
  rw [← hn] at hl zn ⊢
  have EN := Lib.hid hn
  have HS9 := Lib.hid (HS8.out.call HA.out hl)
  clear hl hn HS8 
  obtain ⟨N, hN⟩ : ∃ N : Nat, n.1 = (N : Int) := ⟨n.1.toNat, by omega⟩
  have hN16 : N ≤ 32 := by omega
  have zn1 := zn.1
  clear zn
  rw [hN]
  have HN := Lib.hid hN
  clear hN
  go_wp2_with fail
  have HS0 := HS9
  clear HS9
  go_loopg [5] (N + 1) (fun gk v5 wr => ∃ (i : Nat) (A : Option Addr) (L cp : Nat), i ≤ N ∧ v5 = .int .i64 (i : Int) ∧ Aside0 (i + gk = N + 1) ∧ Aside0 (Kd.R k68 68 wr w.heap.size (fun _ => True) (.slice A L cp) (lstR rdP i n.2.1 n.2.2).1) ∧ Aside0 (DSt w0 w g w.heap.size b3 35 #[(.int .i64 0), (.int .i64 0), (.bool false), (.string ⟨#[]⟩), (.slice none 0 0), (.int .u32 0), (.int .u32 0), (.int .u64 0), (.int .u32 0), (.int .u64 0), (.int .u32 0), (.string ⟨#[]⟩), (.int .u64 0), (.int .u32 0)] (lstR rdP i n.2.1 n.2.2).2.1 (lstR rdP i n.2.1 n.2.2).2.2 #[(.int .i64 a.1), (.int .i64 b.1), (.bool c.1), (.string d.1), (.slice A L cp), (.int .u32 0), (.int .u32 0), (.int .u64 0), (.int .u32 0), (.int .u64 0), (.int .u32 0), (.string ⟨#[]⟩), (.int .u64 0), (.int .u32 0)] wr))
  case atStart => exact ⟨0, none, 0, 0, Nat.zero_le _, rfl, ⟨by omega⟩, ⟨Kd.R_nil _ _ _ _ _⟩, ⟨HS0.out⟩⟩
  case round =>
  obtain ⟨i, A, L, cp, hi, rfl, ⟨hgk⟩, ⟨hR⟩, ⟨hS⟩⟩ := hrel
  have HG := Lib.hid hgk
  have hsl := lst_sz rdP p_sz i n.2.1 n.2.2
  have hll := lst_len rdP i n.2.1 n.2.2
  obtain ⟨r, hr⟩ : ∃ r, r = (lstR rdP i n.2.1 n.2.2) := ⟨_, rfl⟩
  rw [← hr] at hR hS hsl hll
  have ER := Lib.hid hr
  have HR1 := Lib.hid hR
  have HS1 := Lib.hid hS
  have HLX := Lib.hid hll
  clear hgk hR hS hr hll HS0
  by_cases hlt : i < N
  · as_aux_lemma =>
      go_wp2_with fail
      refine (dtext 0 32 HS1.out.i HS1.out.b (by omega) (by decide) (by decide)).mono ?_
      rintro e w2 ⟨rfl, hl⟩
      have HR2 := Lib.hid (R_thru2 HR1.out HS1.out.i.1 (by decide) hl.2.2)
      have zp := text_sz r.2.1 r.2.2 0 32
      obtain ⟨p, hp⟩ : ∃ x, x = rdText r.2.1 r.2.2 0 32 := ⟨_, rfl⟩
      rw [← hp] at hl zp ⊢
      have EP := Lib.hid hp
      have HS2 := Lib.hid (HS1.out.call HA.out hl)
      clear hl hp HS1 HR1
      have HX2a := Lib.hid (heap_alloc_new w2 (.cells #[.string ⟨#[]⟩, .string ⟨#[]⟩] 68))
      have HS2a := Lib.hid (HS2.out.alloc (.cells #[.string ⟨#[]⟩, .string ⟨#[]⟩] 68))
      have HR2a := Lib.hid (R_apart2 HR2.out (.cells #[.string ⟨#[]⟩, .string ⟨#[]⟩] 68))
      have H36 : Hid (b3 < w2.heap.size) := Lib.hid (lt_at2 HS2.out.q)
      have HNG : Hid (w2.heap.size ≠ g) := Lib.hid (by have := lt_at2 HS2.out.i.1; omega)
      clear HS2 HR2
      go_wp2_with (first | ((with_reducible refine gate_store (t := 68) (p := 6) (v := .tmp 30) rfl ?_); refine store_ev2 (P := Try.prog) rfl 68 (.tmp 6) (.tmp 30) rfl rfl w2.heap.size 0 (.agg #[.string p.1, .string ⟨#[]⟩]) #[.string p.1, .string ⟨#[]⟩] rfl rfl rfl 68 _ #[.string p.1, .string ⟨#[]⟩] HX2a.out (by kernel_rfl) (by show 0 + 2 ≤ 2; decide) (by kernel_rfl) (by kernel_rfl) ?_; intro w3 hq hk hb; have HX3 := Lib.hid hq; have HR3 := Lib.hid (R_keep2 HR2a.out hk); have HS3 := Lib.hid (HS2a.out.other HA.out hk hb H36.out); clear hq hk hb))
      clear HX2a HS2a HR2a
      generalize w2.heap.size = b6 at *
      refine (dtext 0 256 HS3.out.i HS3.out.b (by omega) (by decide) (by decide)).mono ?_
      rintro e w4 ⟨rfl, hl⟩
      have HR4 := Lib.hid (R_thru2 HR3.out HS3.out.i.1 (by decide) hl.2.2)
      have HX4 := Lib.hid (blk_keep2 HX3.out hl.2.2 HNG.out)
      have zu := text_sz p.2.1 p.2.2 0 256
      obtain ⟨u, hu⟩ : ∃ x, x = rdText p.2.1 p.2.2 0 256 := ⟨_, rfl⟩
      rw [← hu] at hl zu ⊢
      have EU := Lib.hid hu
      have HS4 := Lib.hid (HS3.out.call HA.out hl)
      clear hl hu HS3 HR3 HX3
      go_wp2_with (first | ((with_reducible refine gate_store (t := 9) (p := 33) (v := .tmp 32) rfl ?_); refine store_ev2 (P := Try.prog) rfl 9 (.tmp 33) (.tmp 32) rfl rfl b6 1 (.string u.1) #[(.string u.1)] rfl rfl rfl 68 _ #[.string p.1, .string u.1] HX4.out (by kernel_rfl) (by show 1 + 1 ≤ 2; decide) (by kernel_rfl) (by kernel_rfl) ?_; intro w7 hq hk hb; have HX7 := Lib.hid hq; have HR7 := Lib.hid (R_keep2 HR4.out hk); have HS7 := Lib.hid (HS4.out.other HA.out hk hb H36.out); clear hq hk hb; have x4 := (blk_cell HS7.out.q 4).trans (show _ = some (.slice A L cp) from rfl)) | ((with_reducible refine gate_dst (N := 36) rfl ?_); refine wpList_load_row rfl 68 (.tmp 6) rfl b6 rfl 68 _ (0, 0) _ HX7.out Try.underlying68 rfl (by kernel_rfl) ?_) | ((with_reducible refine gate_dst (N := 38) rfl ?_); refine Kd.R_append k68 w.heap.size rfl (.tmp 35) (.tmp 37) 33 68 (.agg #[(.string ⟨#[]⟩), (.string ⟨#[]⟩)]) 32 rfl Try.underlying33 info68 rfl (by decide) (by omega) (.slice A L cp) r.1 (⟨p.1, u.1⟩ : S68) [.string p.1, .string u.1] (fun _ => True) (fun _ => False) rfl rfl ?aP (fun _ hk => hk.elim) (fun _ _ => trivial) (R_free2 HR7.out) (Below.refl _ _) (keep_size HS7.out.k) ?aL ?_; (case aP => exact k68_mkM _ _ _ (⟨p.1, u.1⟩ : S68)); (case aL => have := HLX.out; omega); intro v8 w8 hR hb hg hat; have HS8 := Lib.hid (HS7.out.grown HA.out (R_free2 HR7.out) (by decide) (by decide) hg hb); obtain ⟨A8, c8, e8, hz8, _⟩ := Kd.R_reads hR; obtain rfl := e8.trans (congrArg (fun n => Value.slice A8 n c8) (List.length_append : (r.1 ++ [(⟨p.1, u.1⟩ : S68)]).length = r.1.length + 1)); clear e8 hz8; have HR8 := Lib.hid hR; clear hR hb hg hat) | ((with_reducible refine gate_store (t := 33) (p := 39) (v := .tmp 38) rfl ?_); refine store_ev2 (P := Try.prog) rfl 33 (.tmp 39) (.tmp 38) rfl rfl b3 4 (.slice A8 (r.1.length + 1) c8) #[(.slice A8 (r.1.length + 1) c8)] rfl rfl rfl 35 _ #[(.int .i64 a.1), (.int .i64 b.1), (.bool c.1), (.string d.1), (.slice A8 (r.1.length + 1) c8), (.int .u32 0), (.int .u32 0), (.int .u64 0), (.int .u32 0), (.int .u64 0), (.int .u32 0), (.string ⟨#[]⟩), (.int .u64 0), (.int .u32 0)] HS8.out.q (by kernel_rfl) (by show 4 + 1 ≤ 14; decide) (by kernel_rfl) (by kernel_rfl) ?_; intro w9 hq hk hb; have HS9 := Lib.hid (HS8.out.store HA.out hq hk hb); have HR9 := Lib.hid (R_thru2 HR8.out HS8.out.q (by decide) hk); clear hq hk hb))
      go_roundg (gk - 1)
      case measure => have := HG.out; omega
      have hs : lstR rdP (i + 1) n.2.1 n.2.2 = (r.1 ++ [(⟨p.1, u.1⟩ : S68)], u.2.1, u.2.2) := by rw [lst_snoc, ← ER.out]; simp only [rdP, ← EP.out, ← EU.out]
      case rel => exact ⟨i + 1, A8, _, c8, by omega, by go_num, ⟨by have := HG.out; omega⟩, ⟨by rw [hs]; exact HR9.out⟩, ⟨by rw [hs]; exact HS9.out⟩⟩
  · as_aux_lemma =>
      obtain rfl : i = N := by omega
      clear HG hlt hi
      go_wp2_with fail
      refine (dtxn HS1.out.i HS1.out.b (by omega)).mono ?_
      rintro e w2 ⟨rfl, hl⟩
      have HR2 := Lib.hid (R_thru2 HR1.out HS1.out.i.1 (by decide) hl.2.2)
      have ze := x_sz r.2.1 r.2.2
      obtain ⟨e, he⟩ : ∃ x, x = rdX r.2.1 r.2.2 := ⟨_, rfl⟩
      rw [← he] at hl ze ⊢
      have EE := Lib.hid he
      have HS2 := Lib.hid (HS1.out.call HA.out hl)
      clear hl he HS1 HR1
      go_wp2_with (first | ((with_reducible refine gate_store (t := 24) (p := 42) (v := .tmp 41) rfl ?_); refine store_ev2 (P := Try.prog) rfl 24 (.tmp 42) (.tmp 41) rfl rfl b3 5 (.agg #[(.int .u32 e.1.f0), (.int .u32 e.1.f1)]) #[(.int .u32 e.1.f0), (.int .u32 e.1.f1)] rfl rfl rfl 35 _ #[(.int .i64 a.1), (.int .i64 b.1), (.bool c.1), (.string d.1), (.slice A L cp), (.int .u32 e.1.f0), (.int .u32 e.1.f1), (.int .u64 0), (.int .u32 0), (.int .u64 0), (.int .u32 0), (.string ⟨#[]⟩), (.int .u64 0), (.int .u32 0)] HS2.out.q (by kernel_rfl) (by show 5 + 2 ≤ 14; decide) (by kernel_rfl) (by kernel_rfl) ?_; intro w3 hq hk hb; have HS3 := Lib.hid (HS2.out.store HA.out hq hk hb); have HR3 := Lib.hid (R_thru2 HR2.out HS2.out.q (by decide) hk); clear hq hk hb))
      clear HS2 HR2
      refine (dstamp HS3.out.i HS3.out.b (by omega)).mono ?_
      rintro e w4 ⟨rfl, hl⟩
      have HR4 := Lib.hid (R_thru2 HR3.out HS3.out.i.1 (by decide) hl.2.2)
      have zf := stamp_sz e.2.1 e.2.2
      obtain ⟨f, hf⟩ : ∃ x, x = rdStamp e.2.1 e.2.2 := ⟨_, rfl⟩
      rw [← hf] at hl zf ⊢
      have EF := Lib.hid hf
      have HS4 := Lib.hid (HS3.out.call HA.out hl)
      clear hl hf HS3 HR3
      go_wp2_with (first | ((with_reducible refine gate_store (t := 27) (p := 45) (v := .tmp 44) rfl ?_); refine store_ev2 (P := Try.prog) rfl 27 (.tmp 45) (.tmp 44) rfl rfl b3 7 (.agg #[(.int .u64 f.1), (.int .u32 f.2.1)]) #[(.int .u64 f.1), (.int .u32 f.2.1)] rfl rfl rfl 35 _ #[(.int .i64 a.1), (.int .i64 b.1), (.bool c.1), (.string d.1), (.slice A L cp), (.int .u32 e.1.f0), (.int .u32 e.1.f1), (.int .u64 f.1), (.int .u32 f.2.1), (.int .u64 0), (.int .u32 0), (.string ⟨#[]⟩), (.int .u64 0), (.int .u32 0)] HS4.out.q (by kernel_rfl) (by show 7 + 2 ≤ 14; decide) (by kernel_rfl) (by kernel_rfl) ?_; intro w5 hq hk hb; have HS5 := Lib.hid (HS4.out.store HA.out hq hk hb); have HR5 := Lib.hid (R_thru2 HR4.out HS4.out.q (by decide) hk); clear hq hk hb))
      clear HS4 HR4
      refine (dstamp HS5.out.i HS5.out.b (by omega)).mono ?_
      rintro e w6 ⟨rfl, hl⟩
      have HR6 := Lib.hid (R_thru2 HR5.out HS5.out.i.1 (by decide) hl.2.2)
      have zh := stamp_sz f.2.2.1 f.2.2.2
      obtain ⟨h, hh⟩ : ∃ x, x = rdStamp f.2.2.1 f.2.2.2 := ⟨_, rfl⟩
      rw [← hh] at hl zh ⊢
      have EH := Lib.hid hh
      have HS6 := Lib.hid (HS5.out.call HA.out hl)
      clear hl hh HS5 HR5
      go_wp2_with (first | ((with_reducible refine gate_store (t := 27) (p := 48) (v := .tmp 47) rfl ?_); refine store_ev2 (P := Try.prog) rfl 27 (.tmp 48) (.tmp 47) rfl rfl b3 9 (.agg #[(.int .u64 h.1), (.int .u32 h.2.1)]) #[(.int .u64 h.1), (.int .u32 h.2.1)] rfl rfl rfl 35 _ #[(.int .i64 a.1), (.int .i64 b.1), (.bool c.1), (.string d.1), (.slice A L cp), (.int .u32 e.1.f0), (.int .u32 e.1.f1), (.int .u64 f.1), (.int .u32 f.2.1), (.int .u64 h.1), (.int .u32 h.2.1), (.string ⟨#[]⟩), (.int .u64 0), (.int .u32 0)] HS6.out.q (by kernel_rfl) (by show 9 + 2 ≤ 14; decide) (by kernel_rfl) (by kernel_rfl) ?_; intro w7 hq hk hb; have HS7 := Lib.hid (HS6.out.store HA.out hq hk hb); have HR7 := Lib.hid (R_thru2 HR6.out HS6.out.q (by decide) hk); clear hq hk hb))
      clear HS6 HR6
      refine (dtext 0 32 HS7.out.i HS7.out.b (by omega) (by decide) (by decide)).mono ?_
      rintro e w8 ⟨rfl, hl⟩
      have HR8 := Lib.hid (R_thru2 HR7.out HS7.out.i.1 (by decide) hl.2.2)
      have zy := text_sz h.2.2.1 h.2.2.2 0 32
      obtain ⟨y, hy⟩ : ∃ x, x = rdText h.2.2.1 h.2.2.2 0 32 := ⟨_, rfl⟩
      rw [← hy] at hl zy ⊢
      have EY := Lib.hid hy
      have HS8 := Lib.hid (HS7.out.call HA.out hl)
      clear hl hy HS7 HR7
      go_wp2_with (first | ((with_reducible refine gate_store (t := 9) (p := 51) (v := .tmp 50) rfl ?_); refine store_ev2 (P := Try.prog) rfl 9 (.tmp 51) (.tmp 50) rfl rfl b3 11 (.string y.1) #[(.string y.1)] rfl rfl rfl 35 _ #[(.int .i64 a.1), (.int .i64 b.1), (.bool c.1), (.string d.1), (.slice A L cp), (.int .u32 e.1.f0), (.int .u32 e.1.f1), (.int .u64 f.1), (.int .u32 f.2.1), (.int .u64 h.1), (.int .u32 h.2.1), (.string y.1), (.int .u64 0), (.int .u32 0)] HS8.out.q (by kernel_rfl) (by show 11 + 1 ≤ 14; decide) (by kernel_rfl) (by kernel_rfl) ?_; intro w9 hq hk hb; have HS9 := Lib.hid (HS8.out.store HA.out hq hk hb); have HR9 := Lib.hid (R_thru2 HR8.out HS8.out.q (by decide) hk); clear hq hk hb))
      clear HS8 HR8
      refine (dstamp HS9.out.i HS9.out.b (by omega)).mono ?_
      rintro e w10 ⟨rfl, hl⟩
      have HR10 := Lib.hid (R_thru2 HR9.out HS9.out.i.1 (by decide) hl.2.2)
      have zj := stamp_sz y.2.1 y.2.2
      obtain ⟨j, hj⟩ : ∃ x, x = rdStamp y.2.1 y.2.2 := ⟨_, rfl⟩
      rw [← hj] at hl zj ⊢
      have EJ := Lib.hid hj
      have HS10 := Lib.hid (HS9.out.call HA.out hl)
      clear hl hj HS9 HR9
      go_wp2_with (first | ((with_reducible refine gate_store (t := 27) (p := 54) (v := .tmp 53) rfl ?_); refine store_ev2 (P := Try.prog) rfl 27 (.tmp 54) (.tmp 53) rfl rfl b3 12 (.agg #[(.int .u64 j.1), (.int .u32 j.2.1)]) #[(.int .u64 j.1), (.int .u32 j.2.1)] rfl rfl rfl 35 _ #[(.int .i64 a.1), (.int .i64 b.1), (.bool c.1), (.string d.1), (.slice A L cp), (.int .u32 e.1.f0), (.int .u32 e.1.f1), (.int .u64 f.1), (.int .u32 f.2.1), (.int .u64 h.1), (.int .u32 h.2.1), (.string y.1), (.int .u64 j.1), (.int .u32 j.2.1)] HS10.out.q (by kernel_rfl) (by show 12 + 2 ≤ 14; decide) (by kernel_rfl) (by kernel_rfl) ?_; intro w11 hq hk hb; have HS11 := Lib.hid (HS10.out.store HA.out hq hk hb); have HR11 := Lib.hid (R_thru2 HR10.out HS10.out.q (by decide) hk); clear hq hk hb) | ((with_reducible refine gate_dst (N := 55) rfl ?_); refine wpList_load_row rfl 35 (.tmp 3) rfl b3 rfl 35 _ (0, 0) _ HS11.out.q Try.underlying35 rfl (by kernel_rfl) ?_) | ((with_reducible refine gate_store (t := 35) (p := 2) (v := .tmp 55) rfl ?_); refine store_ev2 (P := Try.prog) rfl 35 (.tmp 2) (.tmp 55) rfl rfl w.heap.size 0 (.agg #[(.int .i64 a.1), (.int .i64 b.1), (.bool c.1), (.string d.1), (.slice A L cp), (.int .u32 e.1.f0), (.int .u32 e.1.f1), (.int .u64 f.1), (.int .u32 f.2.1), (.int .u64 h.1), (.int .u32 h.2.1), (.string y.1), (.int .u64 j.1), (.int .u32 j.2.1)]) #[(.int .i64 a.1), (.int .i64 b.1), (.bool c.1), (.string d.1), (.slice A L cp), (.int .u32 e.1.f0), (.int .u32 e.1.f1), (.int .u64 f.1), (.int .u32 f.2.1), (.int .u64 h.1), (.int .u32 h.2.1), (.string y.1), (.int .u64 j.1), (.int .u32 j.2.1)] rfl rfl rfl 35 _ #[(.int .i64 a.1), (.int .i64 b.1), (.bool c.1), (.string d.1), (.slice A L cp), (.int .u32 e.1.f0), (.int .u32 e.1.f1), (.int .u64 f.1), (.int .u32 f.2.1), (.int .u64 h.1), (.int .u32 h.2.1), (.string y.1), (.int .u64 j.1), (.int .u32 j.2.1)] HS11.out.z (by kernel_rfl) (by show 0 + 14 ≤ 14; decide) (by kernel_rfl) (by kernel_rfl) ?_; intro w12 hq hk hb; have HZ := Lib.hid hq; have HK := Lib.hid hk; have HB := Lib.hid (hb _ _ HSZ.out HS11.out.b); clear hq hk hb))
      have hNE : g ≠ w.heap.size := by have := HA.out.d; omega
      refine bodyPost_ret (results_cell_row rfl _ _ w.heap.size 35 _ (0, 0) _ rfl HZ.out Try.underlying35 rfl (by kernel_rfl)) rfl ?_
      have hr : rdRep s er = (⟨a.1, b.1, c.1, d.1, r.1, e.1.f0, e.1.f1, f.1, f.2.1, h.1, h.2.1, y.1, j.1, j.2.1⟩, j.2.2.1, j.2.2.2) := by
        have e1 := EN.out
        simp only [rdRep, ← EA.out, ← EB.out, ← EC.out, ← ED.out, ← e1, HN.out, Int.toNat_natCast, ← ER.out, ← EE.out, ← EF.out, ← EH.out, ← EY.out, ← EJ.out]
      unfold DRepP
      rw [hr]
      exact ⟨_, rfl, R_thru2 HR11.out HS11.out.z (by decide) HK.out, ⟨blk_keep2 HS11.out.i.1 HK.out hNE, HS11.out.i.2⟩, HB.out, ⟨Nat.le_trans HS11.out.k.1 HK.out.1, fun i hi hg hr => (HK.out.2 i (Nat.lt_of_lt_of_le hi HS11.out.k.1) (by omega) (by simp)).trans (HS11.out.k.2 i hi hg hr)⟩⟩
end Go.Proofs.Ytjfokbkfniilhaa

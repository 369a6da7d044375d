/- LetterWrites: what is written is the document's, and is read as it was. Conditions: those that each theorem names. -/
import Derived.Test.YtjfokbkfniilhaaLn
import Derived.Test.YtjfokbkfniilhaaLs
import Derived.Test.YtjfokbkfniilhaaLu
set_option linter.unusedVariables false
set_option linter.unusedSimpArgs false
set_option linter.constructorNameAsVariable false
namespace Go.Proofs.Ytjfokbkfniilhaa
open Go.RowKit Go.Deep Go.Proofs.YtjfokbkfniilhaaW.PrintWords Go.Proofs.Ytjfokbkfniilhaa.PLa Go.Proofs.Ytjfokbkfniilhaa.PRd
-- ZERO 0 .agg #[.int .u32 0, .int .u32 0, .int .u32 0, .bool false, .int .i64 0, .int .u32 0, .int .u32 0, .int .u64 0, .int .u32 0, .int .u64 0, .int .u32 0, .string ⟨#[]⟩, .string ⟨#[]⟩, .int .i64 0, .int .u8 0, .slice none 0 0, .slice none 0 0, .int .i64 0, .int .i64 0, .bool false, .string ⟨#[]⟩, .slice none 0 0, .int .u32 0, .int .u32 0, .int .u64 0, .int .u32 0, .int .u64 0, .int .u32 0, .string ⟨#[]⟩, .int .u64 0, .int .u32 0]
theorem encAsk_size (q : Rq) (F : AskFacts q) : (encAsk q).size ≤ 20000 := by
  obtain ⟨k, bc, bn, sp, sl, ap, al, key, tt, lim, parts, ws, sk⟩ := q
  obtain ⟨⟨hk, hbc, hbn, hsp, hsl, hap, hal, hlim, hparts, hws, hsk, skx⟩, ⟨hk0, hk1⟩, ⟨hl0, hl1⟩, hkey, htt, hw16, hs16, wx⟩ := F
  unfold U32 at hbc hbn hsl hal
  unfold U64 at hsp hap
  dsimp only at *
  have b0 := bz k (by omega)
  have b1 := bz bc (by omega)
  have b2 := bz bn (by omega)
  have b3 := bz sp (by omega)
  have b4 := bz sl (by omega)
  have b5 := bz ap (by omega)
  have b6 := bz al (by omega)
  have b7 := bz lim (by omega)
  have b8 := bz parts (by omega)
  have b9 := bz (ws.length : Int) (by omega)
  have b10 := bz (sk.length : Int) (by omega)
  have t0 := tz key 32 (by omega) (by omega)
  have t1 := tz tt 32 (by omega) (by omega)
  have l1 := encs_size encW 307 ws (fun x hx => encW_size x (wx x hx))
  have l2 := encs_size encX 18 sk (fun x hx => encX_size x (skx x hx))
  simp only [encAsk, ByteArray.size_append]
  omega
theorem encRep_size (r : Rp) (F : RepFacts r) : (encRep r).size ≤ 20000 := by
  obtain ⟨k, er, fd, val, ps, wc, wn, sp, sl, ap, al, pr, np, nl⟩ := r
  obtain ⟨⟨pk, per, pps, pwc, pwn, psp, psl, pap, pal, pnp, pnl⟩, ⟨hk0, hk1⟩, ⟨hl0, hl1⟩, hpr, hval, hp32, px⟩ := F
  unfold U32 at pwc pwn psl pal pnl
  unfold U64 at psp pap pnp
  dsimp only at *
  have b0 := bz k (by omega)
  have b1 := bz er (by omega)
  have b2 := bz wc (by omega)
  have b3 := bz wn (by omega)
  have b4 := bz sp (by omega)
  have b5 := bz sl (by omega)
  have b6 := bz ap (by omega)
  have b7 := bz al (by omega)
  have b8 := bz np (by omega)
  have b9 := bz nl (by omega)
  have b10 := bz (ps.length : Int) (by omega)
  have f0 : (encF fd).size ≤ 1 := by cases fd <;> decide
  have t0 := tz val 256 (by omega) (by omega)
  have t1 := tz pr 32 (by omega) (by omega)
  have l1 := encs_size encP 306 ps (fun x hx => encP_size x (px x hx))
  simp only [encRep, ByteArray.size_append]
  omega
theorem encL_size (l : Lt) (hl : LOk l) (h : rightR l = true) : (encL l).size ≤ 9223372036854775807 := by
  obtain ⟨cl, sh, sq, an, q, r⟩ := l
  obtain ⟨⟨c0, c1⟩, ⟨s0, s1⟩, ⟨q0, q1⟩, hq, hp⟩ := hl
  dsimp only at *
  unfold rightR at h
  dsimp only at h
  split at h
  · cases h
  split at h
  · cases h
  have b0 := bz cl (by omega)
  have b1 := bz sh (by omega)
  have b2 := bz sq (by omega)
  have f0 : (encF an).size ≤ 1 := by cases an <;> decide
  cases an with
  | true =>
    rw [if_pos rfl, Bool.and_eq_true] at h
    have h2 := encRep_size r (repFacts r hp h.2)
    simp only [encL, ByteArray.size_append, if_true]
    omega
  | false =>
    rw [if_neg (by decide), Bool.and_eq_true] at h
    have h2 := encAsk_size q (askFacts q hq h.2)
    simp only [encL, ByteArray.size_append, Bool.false_eq_true, if_false]
    omega
set_option maxRecDepth 100000 in
set_option maxHeartbeats 16000000 in
theorem lwrites_calls (l : Lt) (A1 A2 A3 : Option Addr) (c1 c2 c3 : Nat) (w : World) (hl : LOk l) (h1 : LtIn w l A1 c1 A2 c2 A3 c3) :
    Calls Try.prog 3 #[.agg #[.int .u32 l.cl, .int .u32 l.sh, .int .u32 l.sq, .bool l.an, .int .i64 l.q.k, .int .u32 l.q.bc, .int .u32 l.q.bn, .int .u64 l.q.sp, .int .u32 l.q.sl, .int .u64 l.q.ap, .int .u32 l.q.al, .string l.q.key, .string l.q.tt, .int .i64 l.q.lim, .int .u8 l.q.parts, .slice A1 l.q.ws.length c1, .slice A2 l.q.sk.length c2, .int .i64 l.r.k, .int .i64 l.r.er, .bool l.r.fd, .string l.r.val, .slice A3 l.r.ps.length c3, .int .u32 l.r.wc, .int .u32 l.r.wn, .int .u64 l.r.sp, .int .u32 l.r.sl, .int .u64 l.r.ap, .int .u32 l.r.al, .string l.r.pr, .int .u64 l.r.np, .int .u32 l.r.nl]] w fun e w' => e = .returned (.bool true) ∧ Below w.heap.size w w' := by
  obtain ⟨b, hb⟩ : ∃ b, rightR l = b := ⟨_, rfl⟩
  have hws : ∀ W, Below w.heap.size w W → _ := fun W (hB : Below w.heap.size w W) => write_calls l A1 A2 A3 c1 c2 c3 W hl (Kd.C_below h1.h1 hB) (Kd.C_below h1.h2 hB) (Kd.C_below h1.h3 hB)
  have hrs : ∀ W, Below w.heap.size w W → _ := fun W (hB : Below w.heap.size w W) => rwrite_calls l A1 A2 A3 c1 c2 c3 W hl (Kd.C_below h1.h1 hB) (Kd.C_below h1.h2 hB) (Kd.C_below h1.h3 hB)
  have hri : ∀ W, Below w.heap.size w W → _ := fun W (hB : Below w.heap.size w W) => right_calls l A1 A2 A3 c1 c2 c3 W hl (Kd.C_below h1.h1 hB) (Kd.C_below h1.h3 hB)
  have hrd : b = true → (encL l).size ≤ 9223372036854775807 → ∀ W, Calls Try.prog 10 #[.string (encL l)] W (fun e w' => ∃ B1 d1 B2 d2 B3 d3, e = .returned (.tuple #[LtV l B1 d1 B2 d2 B3 d3, .int .i64 0]) ∧ LtIn w' l B1 d1 B2 d2 B3 d3 ∧ Below W.heap.size W w') := by
    intro e hz W
    have h := read_calls (encL l) hz W
    unfold ReadP at h
    rw [read_encL l hl (hb.trans e)] at h
    exact h
  have HSZ : Hid (b = true → (encL l).size ≤ 9223372036854775807) := Lib.hid (fun e => encL_size l hl (hb.trans e))
  have HRD := Lib.hid hrd
  have HSM := Lib.hid (fun W (hB : Below w.heap.size w W) (B1 B2 B3 : Option Addr) (d1 d2 d3 : Nat) (hI : LtIn W l B1 d1 B2 d2 B3 d3) => same_calls l l A1 A2 A3 B1 B2 B3 c1 c2 c3 d1 d2 d3 W hl hl (h1.below hB) hI)
  have hwr : writeR l = if b = true then (encL l, 0) else (⟨#[]⟩, 1) := by unfold writeR; rw [hb]
  rw [hwr] at hws hrs
  rw [hb] at hri
  have g1 : (l.q.ws.length : Int) ≤ 9223372036854775807 := by have := hl.q.ws; omega
  have g2 : (l.q.sk.length : Int) ≤ 9223372036854775807 := by have := hl.q.sk; omega
  have g3 : (l.r.ps.length : Int) ≤ 9223372036854775807 := by have := hl.r.ps; omega
  have HWS := Lib.hid hws
  have HRS := Lib.hid hrs
  have HRI := Lib.hid hri
  clear hrd hws hrs hri hwr hl h1 hb
  rw [eqD_self] at HSM
  generalize encL l = S at *
  obtain ⟨cl, sh, sq, an, q, r⟩ := l
  dsimp only at *
  have HB0 := Lib.hid (below_alloc' (Below.refl _ w) (.cells #[.int .u32 cl, .int .u32 sh, .int .u32 sq, .bool an, .int .i64 q.k, .int .u32 q.bc, .int .u32 q.bn, .int .u64 q.sp, .int .u32 q.sl, .int .u64 q.ap, .int .u32 q.al, .string q.key, .string q.tt, .int .i64 q.lim, .int .u8 q.parts, .slice A1 q.ws.length c1, .slice A2 q.sk.length c2, .int .i64 r.k, .int .i64 r.er, .bool r.fd, .string r.val, .slice A3 r.ps.length c3, .int .u32 r.wc, .int .u32 r.wn, .int .u64 r.sp, .int .u32 r.sl, .int .u64 r.ap, .int .u32 r.al, .string r.pr, .int .u64 r.np, .int .u32 r.nl] 37))
  have HX0 := Lib.hid (heap_alloc_new w (.cells #[.int .u32 cl, .int .u32 sh, .int .u32 sq, .bool an, .int .i64 q.k, .int .u32 q.bc, .int .u32 q.bn, .int .u64 q.sp, .int .u32 q.sl, .int .u64 q.ap, .int .u32 q.al, .string q.key, .string q.tt, .int .i64 q.lim, .int .u8 q.parts, .slice A1 q.ws.length c1, .slice A2 q.sk.length c2, .int .i64 r.k, .int .i64 r.er, .bool r.fd, .string r.val, .slice A3 r.ps.length c3, .int .u32 r.wc, .int .u32 r.wn, .int .u64 r.sp, .int .u32 r.sl, .int .u64 r.ap, .int .u32 r.al, .string r.pr, .int .u64 r.np, .int .u32 r.nl] 37))
  go_enter Try.func3, Try.ntmps3
  go_wp2_with fail
  refine (awake_calls _).mono ?_
  rintro e w1 ⟨rfl, hB⟩
  have HX1 := Lib.hid ((hB.block _ (lt_at HX0.out)).trans HX0.out)
  have HB1 := Lib.hid (bel_then HB0.out hB)
  obtain ⟨hc1, hf1⟩ := bcell hB
  clear hB HX0 HB0
  go_wp2_with (first | ((with_reducible refine gate_dst (N := 27) rfl ?_); refine wpList_load_row rfl 37 (.tmp 1) rfl w.heap.size rfl 37 _ (0, 0) _ HX1.out Try.underlying37 rfl (by kernel_rfl) ?_))
  all_goals first | (go_ret; exact ⟨rfl, HB1.out⟩) | skip
  cases b with
  | false =>
    as_aux_lemma =>
      refine (HWS.out _ HB1.out).mono ?_
      rintro e w2 ⟨rfl, hB⟩
      have HX2 := Lib.hid ((hB.block _ (lt_at HX1.out)).trans HX1.out)
      have HB2 := Lib.hid (bel_then HB1.out hB)
      clear hB HX1 HWS hc1 hf1
      go_wp2_with (first | ((with_reducible refine gate_dst (N := 32) rfl ?_); refine wpList_load_row rfl 37 (.tmp 1) rfl w.heap.size rfl 37 _ (0, 0) _ HX2.out Try.underlying37 rfl (by kernel_rfl) ?_))
      refine (HRS.out _ HB2.out).mono ?_
      rintro e w3 ⟨rfl, hB⟩
      have HX3 := Lib.hid ((hB.block _ (lt_at HX2.out)).trans HX2.out)
      have HB3 := Lib.hid (bel_then HB2.out hB)
      clear hB HX2 HRS
      go_wp2_with (first | ((with_reducible refine gate_dst (N := 45) rfl ?_); refine gate_guard (by rfl) ?_; refine wpList_load_row rfl 37 (.tmp 1) rfl w.heap.size rfl 37 _ (0, 0) _ HX3.out Try.underlying37 rfl (by kernel_rfl) ?_))
      refine (HRI.out _ HB3.out).mono ?_
      rintro e w4 ⟨rfl, hB⟩
      have HB4 := Lib.hid (bel_then HB3.out hB)
      clear hB
      go_wp2_with fail
      go_ret
      exact ⟨rfl, HB4.out⟩
  | true =>
    as_aux_lemma =>
      have hsz := HSZ.out rfl
      refine (HWS.out _ HB1.out).mono ?_
      rintro e w2 ⟨rfl, hB⟩
      have HX2 := Lib.hid ((hB.block _ (lt_at HX1.out)).trans HX1.out)
      have HB2 := Lib.hid (bel_then HB1.out hB)
      clear hB HX1 HWS hc1 hf1
      go_wp2_with (first | ((with_reducible refine gate_dst (N := 32) rfl ?_); refine wpList_load_row rfl 37 (.tmp 1) rfl w.heap.size rfl 37 _ (0, 0) _ HX2.out Try.underlying37 rfl (by kernel_rfl) ?_))
      refine (HRS.out _ HB2.out).mono ?_
      rintro e w3 ⟨rfl, hB⟩
      have HX3 := Lib.hid ((hB.block _ (lt_at HX2.out)).trans HX2.out)
      have HB3 := Lib.hid (bel_then HB2.out hB)
      clear hB HX2 HRS
      go_wp2_with (first | ((with_reducible refine gate_dst (N := 45) rfl ?_); refine gate_guard (by rfl) ?_; refine wpList_load_row rfl 37 (.tmp 1) rfl w.heap.size rfl 37 _ (0, 0) _ HX3.out Try.underlying37 rfl (by kernel_rfl) ?_))
      refine (HRI.out _ HB3.out).mono ?_
      rintro e w4 ⟨rfl, hB⟩
      have HX4 := Lib.hid ((hB.block _ (lt_at HX3.out)).trans HX3.out)
      have HB4 := Lib.hid (bel_then HB3.out hB)
      clear hB HX3
      go_wp2_with fail
      refine (HRD.out trivial hsz _).mono ?_
      rintro e w5 ⟨B1, d1, B2, d2, B3, d3, rfl, hI, hB⟩
      have HX5 := Lib.hid ((hB.block _ (lt_at HX4.out)).trans HX4.out)
      have HB5 := Lib.hid (bel_then HB4.out hB)
      have HI := Lib.hid hI
      have HLE : Hid (w.heap.size ≤ w5.heap.size) := Lib.hid HB5.out.size
      have HX6 := Lib.hid (heap_alloc_new w5 (.cells #[.int .u32 0, .int .u32 0, .int .u32 0, .bool false, .int .i64 0, .int .u32 0, .int .u32 0, .int .u64 0, .int .u32 0, .int .u64 0, .int .u32 0, .string ⟨#[]⟩, .string ⟨#[]⟩, .int .i64 0, .int .u8 0, .slice none 0 0, .slice none 0 0, .int .i64 0, .int .i64 0, .bool false, .string ⟨#[]⟩, .slice none 0 0, .int .u32 0, .int .u32 0, .int .u64 0, .int .u32 0, .int .u64 0, .int .u32 0, .string ⟨#[]⟩, .int .u64 0, .int .u32 0] 37))
      have HB6 := Lib.hid (below_alloc' (Below.refl _ w5) (.cells #[.int .u32 0, .int .u32 0, .int .u32 0, .bool false, .int .i64 0, .int .u32 0, .int .u32 0, .int .u64 0, .int .u32 0, .int .u64 0, .int .u32 0, .string ⟨#[]⟩, .string ⟨#[]⟩, .int .i64 0, .int .u8 0, .slice none 0 0, .slice none 0 0, .int .i64 0, .int .i64 0, .bool false, .string ⟨#[]⟩, .slice none 0 0, .int .u32 0, .int .u32 0, .int .u64 0, .int .u32 0, .int .u64 0, .int .u32 0, .string ⟨#[]⟩, .int .u64 0, .int .u32 0] 37))
      have hlt : w.heap.size < w5.heap.size := lt_at HX5.out
      have HX7 := Lib.hid ((HB6.out.block _ hlt).trans HX5.out)
      have HNE : Hid (w.heap.size ≠ w5.heap.size) := Lib.hid (by omega)
      clear hB hI HX4 hlt
      go_wp2_with (first | (((with_reducible refine gate_store (t := 37) (p := 7) (v := .tmp 58) rfl ?_); refine store_mid_ev (w0 := w5) rfl 37 (.tmp 7) (.tmp 58) rfl rfl w5.heap.size 0 #[.int .u32 cl, .int .u32 sh, .int .u32 sq, .bool an, .int .i64 q.k, .int .u32 q.bc, .int .u32 q.bn, .int .u64 q.sp, .int .u32 q.sl, .int .u64 q.ap, .int .u32 q.al, .string q.key, .string q.tt, .int .i64 q.lim, .int .u8 q.parts, .slice B1 q.ws.length d1, .slice B2 q.sk.length d2, .int .i64 r.k, .int .i64 r.er, .bool r.fd, .string r.val, .slice B3 r.ps.length d3, .int .u32 r.wc, .int .u32 r.wn, .int .u64 r.sp, .int .u32 r.sl, .int .u64 r.ap, .int .u32 r.al, .string r.pr, .int .u64 r.np, .int .u32 r.nl] rfl rfl 37 _ #[.int .u32 cl, .int .u32 sh, .int .u32 sq, .bool an, .int .i64 q.k, .int .u32 q.bc, .int .u32 q.bn, .int .u64 q.sp, .int .u32 q.sl, .int .u64 q.ap, .int .u32 q.al, .string q.key, .string q.tt, .int .i64 q.lim, .int .u8 q.parts, .slice B1 q.ws.length d1, .slice B2 q.sk.length d2, .int .i64 r.k, .int .i64 r.er, .bool r.fd, .string r.val, .slice B3 r.ps.length d3, .int .u32 r.wc, .int .u32 r.wn, .int .u64 r.sp, .int .u32 r.sl, .int .u64 r.ap, .int .u32 r.al, .string r.pr, .int .u64 r.np, .int .u32 r.nl] HX6.out (by kernel_rfl) (by show 0 + 31 ≤ 31; decide) (by kernel_rfl) (by kernel_rfl) HB6.out (Nat.le_refl _) ?_; intro w9 hX9 hK9 hB9; have HX9 := Lib.hid hX9; have HK9 := Lib.hid hK9; have HB9 := Lib.hid hB9; clear hX9 hK9 hB9); have HX8 := Lib.hid (blk_keep HX7.out HK9.out HNE.out)) | ((with_reducible refine gate_dst (N := 63) rfl ?_); refine gate_guard (by rfl) ?_; refine wpList_load_row rfl 37 (.tmp 1) rfl w.heap.size rfl 37 _ (0, 0) _ HX8.out Try.underlying37 rfl (by kernel_rfl) ?_) | ((with_reducible refine gate_dst (N := 64) rfl ?_); refine gate_guard (by rfl) ?_; refine wpList_load_row rfl 37 (.tmp 7) rfl w5.heap.size rfl 37 _ (0, 0) _ HX9.out Try.underlying37 rfl (by kernel_rfl) ?_))
      have HI6 := Lib.hid (HI.out.below HB9.out)
      have HB7 := Lib.hid (bel_then HB5.out HB9.out)
      refine (HSM.out _ HB7.out _ _ _ _ _ _ HI6.out).mono ?_
      rintro e w6 ⟨rfl, hB⟩
      have HB8 := Lib.hid (bel_then HB7.out hB)
      clear hB
      go_wp2_with fail
      go_ret
      exact ⟨rfl, HB8.out⟩
theorem walk_LetterWrites {H : Type} {enc : TypeId × Value → H} (W : World) (v0 : Value) (d0 : DataW H) (p0 : List MemPlace)
    (h0 : DataW.Trod enc Try.prog W 0 (fun _ => true) true 37 v0 d0 p0) {base0 : Nat} (u0 : Value.okWide Try.prog W .any base0 37 v0) (z0 : ∀ n ∈ DataW.weights Try.prog 37 d0, n ≤ reachBytes) :
    Calls Try.prog 3 #[v0] W fun e w' => e = .returned (.bool true) ∧ Below W.heap.size W w' := by
  obtain ⟨a, A1, c1, A2, c2, A3, c3, rfl, hA, okA⟩ := letter_open W v0 d0 p0 h0 u0
  exact lwrites_calls a A1 A2 A3 c1 c2 c3 W (okA (by have := hA.h1.2.1; omega) (by have := hA.h2.2.1; omega) (by have := hA.h3.2.1; omega)) hA
end Go.Proofs.Ytjfokbkfniilhaa

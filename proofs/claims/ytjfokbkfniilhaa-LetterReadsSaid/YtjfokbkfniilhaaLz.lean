/- LetterReads: bytes are read as the document says; what is read is written as just these bytes. Conditions: those that each theorem names. -/
import Derived.Test.YtjfokbkfniilhaaLy
set_option linter.unusedVariables false
set_option linter.unusedSimpArgs false
set_option linter.constructorNameAsVariable false
namespace Go.Proofs.Ytjfokbkfniilhaa
open Go.RowKit Go.Deep Go.Proofs.YtjfokbkfniilhaaW.PrintWords Go.Proofs.Ytjfokbkfniilhaa.PLa
theorem zLtOk : LOk zLt := ⟨⟨by decide, by decide⟩, ⟨by decide, by decide⟩, ⟨by decide, by decide⟩, zqOk, zpOk⟩
theorem partsOk (s : ByteArray) : LOk (rdParts s).1 := by
  unfold rdParts
  dsimp only
  split
  · exact ⟨numOk _ _ _ (by decide) (by decide), numOk _ _ _ (by decide) (by decide), numOk _ _ _ (by decide) (by decide), zqOk, repOk _ _⟩
  · exact ⟨numOk _ _ _ (by decide) (by decide), numOk _ _ _ (by decide) (by decide), numOk _ _ _ (by decide) (by decide), askOk _ _, zpOk⟩
theorem readOk (s : ByteArray) : LOk (readR s).1 := by
  unfold readR
  split
  · split
    · exact partsOk s
    · exact zLtOk
  · exact zLtOk
set_option maxRecDepth 100000 in
set_option maxHeartbeats 16000000 in
theorem lreads_calls (s : ByteArray) (hs : s.size ≤ 9223372036854775807) (w : World) :
    Calls Try.prog 4 #[.string s] w fun e w' => e = .returned (.bool true) ∧ Below w.heap.size w w' := by
  obtain ⟨l, er, hr⟩ : ∃ l er, readR s = (l, er) := ⟨_, _, rfl⟩
  have hok := readOk s
  rw [hr] at hok
  have hw := read_ways s
  rw [hr] at hw
  have h1 : ∀ W, _ := fun W => read_calls s hs W
  have h2 : ∀ W, _ := fun W => dread_calls s hs W
  unfold ReadP at h1 h2
  rw [hr] at h1 h2
  have HR1 := Lib.hid h1
  have HR2 := Lib.hid h2
  have HSM := Lib.hid (fun W (A1 A2 A3 B1 B2 B3 : Option Addr) (c1 c2 c3 d1 d2 d3 : Nat) (hA : LtIn W l A1 c1 A2 c2 A3 c3) (hB : LtIn W l B1 d1 B2 d2 B3 d3) => same_calls l l A1 A2 A3 B1 B2 B3 c1 c2 c3 d1 d2 d3 W hok hok hA hB)
  have HSZ := Lib.hid (fun (he : l = zLt) W (A1 A2 A3 : Option Addr) (c1 c2 c3 : Nat) (hA : LtIn W l A1 c1 A2 c2 A3 c3) => same_calls l zLt A1 A2 A3 none none none c1 c2 c3 0 0 0 W hok zLtOk hA ⟨Kd.C_nil _ _, Nat.le_refl _, Kd.C_nil _ _, Nat.le_refl _, Kd.C_nil _ _, Nat.le_refl _⟩)
  have HWR := Lib.hid (fun W (A1 A2 A3 : Option Addr) (c1 c2 c3 : Nat) (hA : LtIn W l A1 c1 A2 c2 A3 c3) => write_calls l A1 A2 A3 c1 c2 c3 W hok hA.h1 hA.h2 hA.h3)
  have HWW : Hid (er = 0 → writeR l = (s, 0)) := Lib.hid (fun e => by
    rcases hw with h | ⟨l', h, hr2, he⟩
    · injection h with _ h; omega
    · injection h with h _; subst h; unfold writeR; rw [if_pos hr2, he])
  have HWZ : Hid (er ≠ 0 → er = 2 ∧ l = zLt) := Lib.hid (fun e => by
    rcases hw with h | ⟨l', h, hr2, he⟩
    · injection h with h1 h2; exact ⟨h2, h1⟩
    · injection h with _ h; omega)
  rw [eqD_self] at HSM
  clear h1 h2 hw hr hok
  unfold LtV at HR1 HR2
  have HLI : Hid (∀ W W1 A1 c1 A2 c2 A3 c3, LtIn W l A1 c1 A2 c2 A3 c3 → Below W.heap.size W W1 → LtIn W1 l A1 c1 A2 c2 A3 c3) := Lib.hid (fun W W1 A1 c1 A2 c2 A3 c3 h hb => h.below hb)
  rcases (show er = 0 ∨ er ≠ 0 by omega) with he | he
  · as_aux_lemma =>
      subst he
      rw [HWW.out rfl] at HWR
      clear HWW HWZ HSZ
      obtain ⟨cl, sh, sq, an, q, r⟩ := l
      dsimp only at *
      go_enter Try.func4, Try.ntmps4
      go_wp2_with fail
      refine (awake_calls _).mono ?_
      rintro e w1 ⟨rfl, hB⟩
      have HB1 := Lib.hid hB
      clear hB
      go_wp2_with fail
      all_goals first | (go_ret; exact ⟨rfl, HB1.out⟩) | skip
      refine (HR1.out _).mono ?_
      rintro e w2 ⟨A1, c1, A2, c2, A3, c3, rfl, hI, hB⟩
      have HIA := Lib.hid hI
      have HB2 := Lib.hid (bel_then HB1.out hB)
      have HX2 := Lib.hid (heap_alloc_new w2 (.cells #[.int .u32 0, .int .u32 0, .int .u32 0, .bool false, .int .i64 0, .int .u32 0, .int .u32 0, .int .u64 0, .int .u32 0, .int .u64 0, .int .u32 0, .string ⟨#[]⟩, .string ⟨#[]⟩, .int .i64 0, .int .u8 0, .slice none 0 0, .slice none 0 0, .int .i64 0, .int .i64 0, .bool false, .string ⟨#[]⟩, .slice none 0 0, .int .u32 0, .int .u32 0, .int .u64 0, .int .u32 0, .int .u64 0, .int .u32 0, .string ⟨#[]⟩, .int .u64 0, .int .u32 0] 37))
      have HB2a := Lib.hid (below_alloc' (Below.refl _ w2) (.cells #[.int .u32 0, .int .u32 0, .int .u32 0, .bool false, .int .i64 0, .int .u32 0, .int .u32 0, .int .u64 0, .int .u32 0, .int .u64 0, .int .u32 0, .string ⟨#[]⟩, .string ⟨#[]⟩, .int .i64 0, .int .u8 0, .slice none 0 0, .slice none 0 0, .int .i64 0, .int .i64 0, .bool false, .string ⟨#[]⟩, .slice none 0 0, .int .u32 0, .int .u32 0, .int .u64 0, .int .u32 0, .int .u64 0, .int .u32 0, .string ⟨#[]⟩, .int .u64 0, .int .u32 0] 37))
      clear hI hB HB1
      go_wp2_with (((with_reducible refine gate_store (t := 37) (p := 3) (v := .tmp 17) rfl ?_); refine store_ev2 (P := Try.prog) rfl 37 (.tmp 3) (.tmp 17) rfl rfl w2.heap.size 0 (.agg #[.int .u32 cl, .int .u32 sh, .int .u32 sq, .bool an, .int .i64 q.k, .int .u32 q.bc, .int .u32 q.bn, .int .u64 q.sp, .int .u32 q.sl, .int .u64 q.ap, .int .u32 q.al, .string q.key, .string q.tt, .int .i64 q.lim, .int .u8 q.parts, .slice A1 q.ws.length c1, .slice A2 q.sk.length c2, .int .i64 r.k, .int .i64 r.er, .bool r.fd, .string r.val, .slice A3 r.ps.length c3, .int .u32 r.wc, .int .u32 r.wn, .int .u64 r.sp, .int .u32 r.sl, .int .u64 r.ap, .int .u32 r.al, .string r.pr, .int .u64 r.np, .int .u32 r.nl]) #[.int .u32 cl, .int .u32 sh, .int .u32 sq, .bool an, .int .i64 q.k, .int .u32 q.bc, .int .u32 q.bn, .int .u64 q.sp, .int .u32 q.sl, .int .u64 q.ap, .int .u32 q.al, .string q.key, .string q.tt, .int .i64 q.lim, .int .u8 q.parts, .slice A1 q.ws.length c1, .slice A2 q.sk.length c2, .int .i64 r.k, .int .i64 r.er, .bool r.fd, .string r.val, .slice A3 r.ps.length c3, .int .u32 r.wc, .int .u32 r.wn, .int .u64 r.sp, .int .u32 r.sl, .int .u64 r.ap, .int .u32 r.al, .string r.pr, .int .u64 r.np, .int .u32 r.nl] rfl rfl rfl 37 _ #[.int .u32 cl, .int .u32 sh, .int .u32 sq, .bool an, .int .i64 q.k, .int .u32 q.bc, .int .u32 q.bn, .int .u64 q.sp, .int .u32 q.sl, .int .u64 q.ap, .int .u32 q.al, .string q.key, .string q.tt, .int .i64 q.lim, .int .u8 q.parts, .slice A1 q.ws.length c1, .slice A2 q.sk.length c2, .int .i64 r.k, .int .i64 r.er, .bool r.fd, .string r.val, .slice A3 r.ps.length c3, .int .u32 r.wc, .int .u32 r.wn, .int .u64 r.sp, .int .u32 r.sl, .int .u64 r.ap, .int .u32 r.al, .string r.pr, .int .u64 r.np, .int .u32 r.nl] HX2.out (by kernel_rfl) (by show 0 + 31 ≤ 31; decide) (by kernel_rfl) (by kernel_rfl) ?_; intro w3 hq hk hb; have HX3 := Lib.hid hq; have hbb := hb w2.heap.size w2 (Nat.le_refl _) HB2a.out; have HIA3 := Lib.hid (HIA.out.below hbb); have HB3 := Lib.hid (bel_then HB2.out hbb); clear hbb HX2 HB2a HB2 HIA; clear hq hk hb))
      refine (HR2.out _).mono ?_
      rintro e w4 ⟨B1, d1, B2, d2, B3, d3, rfl, hI, hB⟩
      have HIB := Lib.hid hI
      have HIA4 := Lib.hid (HIA3.out.below hB)
      have HX4 := Lib.hid ((hB.block _ (lt_at2 HX3.out)).trans HX3.out)
      have HB4 := Lib.hid (bel_then HB3.out hB)
      have hlt : w2.heap.size < w4.heap.size := lt_at2 HX4.out
      have HY4 := Lib.hid (heap_alloc_new w4 (.cells #[.int .u32 0, .int .u32 0, .int .u32 0, .bool false, .int .i64 0, .int .u32 0, .int .u32 0, .int .u64 0, .int .u32 0, .int .u64 0, .int .u32 0, .string ⟨#[]⟩, .string ⟨#[]⟩, .int .i64 0, .int .u8 0, .slice none 0 0, .slice none 0 0, .int .i64 0, .int .i64 0, .bool false, .string ⟨#[]⟩, .slice none 0 0, .int .u32 0, .int .u32 0, .int .u64 0, .int .u32 0, .int .u64 0, .int .u32 0, .string ⟨#[]⟩, .int .u64 0, .int .u32 0] 37))
      have HX5 := Lib.hid (blk_alloc HX4.out (.cells #[.int .u32 0, .int .u32 0, .int .u32 0, .bool false, .int .i64 0, .int .u32 0, .int .u32 0, .int .u64 0, .int .u32 0, .int .u64 0, .int .u32 0, .string ⟨#[]⟩, .string ⟨#[]⟩, .int .i64 0, .int .u8 0, .slice none 0 0, .slice none 0 0, .int .i64 0, .int .i64 0, .bool false, .string ⟨#[]⟩, .slice none 0 0, .int .u32 0, .int .u32 0, .int .u64 0, .int .u32 0, .int .u64 0, .int .u32 0, .string ⟨#[]⟩, .int .u64 0, .int .u32 0] 37))
      have HB4a := Lib.hid (below_alloc' (Below.refl _ w4) (.cells #[.int .u32 0, .int .u32 0, .int .u32 0, .bool false, .int .i64 0, .int .u32 0, .int .u32 0, .int .u64 0, .int .u32 0, .int .u64 0, .int .u32 0, .string ⟨#[]⟩, .string ⟨#[]⟩, .int .i64 0, .int .u8 0, .slice none 0 0, .slice none 0 0, .int .i64 0, .int .i64 0, .bool false, .string ⟨#[]⟩, .slice none 0 0, .int .u32 0, .int .u32 0, .int .u64 0, .int .u32 0, .int .u64 0, .int .u32 0, .string ⟨#[]⟩, .int .u64 0, .int .u32 0] 37))
      have HNE : Hid (w2.heap.size ≠ w4.heap.size) := Lib.hid (by omega)
      clear hI hB hlt HX3 HB3 HIA3 HX4
      go_wp2_with (first | ((with_reducible refine gate_store (t := 37) (p := 5) (v := .tmp 22) rfl ?_); refine store_ev2 (P := Try.prog) rfl 37 (.tmp 5) (.tmp 22) rfl rfl w4.heap.size 0 (.agg #[.int .u32 cl, .int .u32 sh, .int .u32 sq, .bool an, .int .i64 q.k, .int .u32 q.bc, .int .u32 q.bn, .int .u64 q.sp, .int .u32 q.sl, .int .u64 q.ap, .int .u32 q.al, .string q.key, .string q.tt, .int .i64 q.lim, .int .u8 q.parts, .slice B1 q.ws.length d1, .slice B2 q.sk.length d2, .int .i64 r.k, .int .i64 r.er, .bool r.fd, .string r.val, .slice B3 r.ps.length d3, .int .u32 r.wc, .int .u32 r.wn, .int .u64 r.sp, .int .u32 r.sl, .int .u64 r.ap, .int .u32 r.al, .string r.pr, .int .u64 r.np, .int .u32 r.nl]) #[.int .u32 cl, .int .u32 sh, .int .u32 sq, .bool an, .int .i64 q.k, .int .u32 q.bc, .int .u32 q.bn, .int .u64 q.sp, .int .u32 q.sl, .int .u64 q.ap, .int .u32 q.al, .string q.key, .string q.tt, .int .i64 q.lim, .int .u8 q.parts, .slice B1 q.ws.length d1, .slice B2 q.sk.length d2, .int .i64 r.k, .int .i64 r.er, .bool r.fd, .string r.val, .slice B3 r.ps.length d3, .int .u32 r.wc, .int .u32 r.wn, .int .u64 r.sp, .int .u32 r.sl, .int .u64 r.ap, .int .u32 r.al, .string r.pr, .int .u64 r.np, .int .u32 r.nl] rfl rfl rfl 37 _ #[.int .u32 cl, .int .u32 sh, .int .u32 sq, .bool an, .int .i64 q.k, .int .u32 q.bc, .int .u32 q.bn, .int .u64 q.sp, .int .u32 q.sl, .int .u64 q.ap, .int .u32 q.al, .string q.key, .string q.tt, .int .i64 q.lim, .int .u8 q.parts, .slice B1 q.ws.length d1, .slice B2 q.sk.length d2, .int .i64 r.k, .int .i64 r.er, .bool r.fd, .string r.val, .slice B3 r.ps.length d3, .int .u32 r.wc, .int .u32 r.wn, .int .u64 r.sp, .int .u32 r.sl, .int .u64 r.ap, .int .u32 r.al, .string r.pr, .int .u64 r.np, .int .u32 r.nl] HY4.out (by kernel_rfl) (by show 0 + 31 ≤ 31; decide) (by kernel_rfl) (by kernel_rfl) ?_; intro w6 hq hk hb; have HY6 := Lib.hid hq; have HX6 := Lib.hid (blk_keep2 HX5.out hk HNE.out); have hbb := hb w4.heap.size w4 (Nat.le_refl _) HB4a.out; have HIA6 := Lib.hid (HIA4.out.below hbb); have HIB6 := Lib.hid (HIB.out.below hbb); have HB6 := Lib.hid (bel_then HB4.out hbb); clear hbb HY4 HX5 HB4a HB4 HIA4 HIB; clear hq hk hb) | ((with_reducible refine gate_dst (N := 28) rfl ?_); refine gate_guard (by rfl) ?_; refine wpList_load_row rfl 37 (.tmp 3) rfl w2.heap.size rfl 37 _ (0, 0) _ HX6.out Try.underlying37 rfl (by kernel_rfl) ?_) | ((with_reducible refine gate_dst (N := 29) rfl ?_); refine gate_guard (by rfl) ?_; refine wpList_load_row rfl 37 (.tmp 5) rfl w4.heap.size rfl 37 _ (0, 0) _ HY6.out Try.underlying37 rfl (by kernel_rfl) ?_))
      refine (HSM.out _ _ _ _ _ _ _ _ _ _ _ _ _ HIA6.out HIB6.out).mono ?_
      rintro e w7 ⟨rfl, hB⟩
      have HB7 := Lib.hid (bel_then HB6.out hB)
      have HX7 := Lib.hid ((hB.block _ (lt_at2 HX6.out)).trans HX6.out)
      have HIA7 := Lib.hid (HIA6.out.below hB)
      clear hB
      go_wp2_with ((with_reducible refine gate_dst (N := 39) rfl ?_); refine wpList_load_row rfl 37 (.tmp 3) rfl w2.heap.size rfl 37 _ (0, 0) _ HX7.out Try.underlying37 rfl (by kernel_rfl) ?_)
      refine (HWR.out _ _ _ _ _ _ _ HIA7.out).mono ?_
      rintro e w8 ⟨rfl, hB⟩
      have HB8 := Lib.hid (bel_then HB7.out hB)
      clear hB
      go_wp2_with fail
      go_ret
      exact ⟨rfl, HB8.out⟩
  · as_aux_lemma =>
      obtain ⟨rfl, hz⟩ := HWZ.out he
      have HSQ := Lib.hid (HSZ.out hz)
      rw [eqD_of hz] at HSQ
      clear he hz HWW HWZ HSZ HWR
      obtain ⟨cl, sh, sq, an, q, r⟩ := l
      dsimp only at *
      go_enter Try.func4, Try.ntmps4
      go_wp2_with fail
      refine (awake_calls _).mono ?_
      rintro e w1 ⟨rfl, hB⟩
      have HB1 := Lib.hid hB
      clear hB
      go_wp2_with fail
      all_goals first | (go_ret; exact ⟨rfl, HB1.out⟩) | skip
      refine (HR1.out _).mono ?_
      rintro e w2 ⟨A1, c1, A2, c2, A3, c3, rfl, hI, hB⟩
      have HIA := Lib.hid hI
      have HB2 := Lib.hid (bel_then HB1.out hB)
      have HX2 := Lib.hid (heap_alloc_new w2 (.cells #[.int .u32 0, .int .u32 0, .int .u32 0, .bool false, .int .i64 0, .int .u32 0, .int .u32 0, .int .u64 0, .int .u32 0, .int .u64 0, .int .u32 0, .string ⟨#[]⟩, .string ⟨#[]⟩, .int .i64 0, .int .u8 0, .slice none 0 0, .slice none 0 0, .int .i64 0, .int .i64 0, .bool false, .string ⟨#[]⟩, .slice none 0 0, .int .u32 0, .int .u32 0, .int .u64 0, .int .u32 0, .int .u64 0, .int .u32 0, .string ⟨#[]⟩, .int .u64 0, .int .u32 0] 37))
      have HB2a := Lib.hid (below_alloc' (Below.refl _ w2) (.cells #[.int .u32 0, .int .u32 0, .int .u32 0, .bool false, .int .i64 0, .int .u32 0, .int .u32 0, .int .u64 0, .int .u32 0, .int .u64 0, .int .u32 0, .string ⟨#[]⟩, .string ⟨#[]⟩, .int .i64 0, .int .u8 0, .slice none 0 0, .slice none 0 0, .int .i64 0, .int .i64 0, .bool false, .string ⟨#[]⟩, .slice none 0 0, .int .u32 0, .int .u32 0, .int .u64 0, .int .u32 0, .int .u64 0, .int .u32 0, .string ⟨#[]⟩, .int .u64 0, .int .u32 0] 37))
      clear hI hB HB1
      go_wp2_with (((with_reducible refine gate_store (t := 37) (p := 3) (v := .tmp 17) rfl ?_); refine store_ev2 (P := Try.prog) rfl 37 (.tmp 3) (.tmp 17) rfl rfl w2.heap.size 0 (.agg #[.int .u32 cl, .int .u32 sh, .int .u32 sq, .bool an, .int .i64 q.k, .int .u32 q.bc, .int .u32 q.bn, .int .u64 q.sp, .int .u32 q.sl, .int .u64 q.ap, .int .u32 q.al, .string q.key, .string q.tt, .int .i64 q.lim, .int .u8 q.parts, .slice A1 q.ws.length c1, .slice A2 q.sk.length c2, .int .i64 r.k, .int .i64 r.er, .bool r.fd, .string r.val, .slice A3 r.ps.length c3, .int .u32 r.wc, .int .u32 r.wn, .int .u64 r.sp, .int .u32 r.sl, .int .u64 r.ap, .int .u32 r.al, .string r.pr, .int .u64 r.np, .int .u32 r.nl]) #[.int .u32 cl, .int .u32 sh, .int .u32 sq, .bool an, .int .i64 q.k, .int .u32 q.bc, .int .u32 q.bn, .int .u64 q.sp, .int .u32 q.sl, .int .u64 q.ap, .int .u32 q.al, .string q.key, .string q.tt, .int .i64 q.lim, .int .u8 q.parts, .slice A1 q.ws.length c1, .slice A2 q.sk.length c2, .int .i64 r.k, .int .i64 r.er, .bool r.fd, .string r.val, .slice A3 r.ps.length c3, .int .u32 r.wc, .int .u32 r.wn, .int .u64 r.sp, .int .u32 r.sl, .int .u64 r.ap, .int .u32 r.al, .string r.pr, .int .u64 r.np, .int .u32 r.nl] rfl rfl rfl 37 _ #[.int .u32 cl, .int .u32 sh, .int .u32 sq, .bool an, .int .i64 q.k, .int .u32 q.bc, .int .u32 q.bn, .int .u64 q.sp, .int .u32 q.sl, .int .u64 q.ap, .int .u32 q.al, .string q.key, .string q.tt, .int .i64 q.lim, .int .u8 q.parts, .slice A1 q.ws.length c1, .slice A2 q.sk.length c2, .int .i64 r.k, .int .i64 r.er, .bool r.fd, .string r.val, .slice A3 r.ps.length c3, .int .u32 r.wc, .int .u32 r.wn, .int .u64 r.sp, .int .u32 r.sl, .int .u64 r.ap, .int .u32 r.al, .string r.pr, .int .u64 r.np, .int .u32 r.nl] HX2.out (by kernel_rfl) (by show 0 + 31 ≤ 31; decide) (by kernel_rfl) (by kernel_rfl) ?_; intro w3 hq hk hb; have HX3 := Lib.hid hq; have hbb := hb w2.heap.size w2 (Nat.le_refl _) HB2a.out; have HIA3 := Lib.hid (HIA.out.below hbb); have HB3 := Lib.hid (bel_then HB2.out hbb); clear hbb HX2 HB2a HB2 HIA; clear hq hk hb))
      refine (HR2.out _).mono ?_
      rintro e w4 ⟨B1, d1, B2, d2, B3, d3, rfl, hI, hB⟩
      have HIB := Lib.hid hI
      have HIA4 := Lib.hid (HIA3.out.below hB)
      have HX4 := Lib.hid ((hB.block _ (lt_at2 HX3.out)).trans HX3.out)
      have HB4 := Lib.hid (bel_then HB3.out hB)
      have hlt : w2.heap.size < w4.heap.size := lt_at2 HX4.out
      have HY4 := Lib.hid (heap_alloc_new w4 (.cells #[.int .u32 0, .int .u32 0, .int .u32 0, .bool false, .int .i64 0, .int .u32 0, .int .u32 0, .int .u64 0, .int .u32 0, .int .u64 0, .int .u32 0, .string ⟨#[]⟩, .string ⟨#[]⟩, .int .i64 0, .int .u8 0, .slice none 0 0, .slice none 0 0, .int .i64 0, .int .i64 0, .bool false, .string ⟨#[]⟩, .slice none 0 0, .int .u32 0, .int .u32 0, .int .u64 0, .int .u32 0, .int .u64 0, .int .u32 0, .string ⟨#[]⟩, .int .u64 0, .int .u32 0] 37))
      have HX5 := Lib.hid (blk_alloc HX4.out (.cells #[.int .u32 0, .int .u32 0, .int .u32 0, .bool false, .int .i64 0, .int .u32 0, .int .u32 0, .int .u64 0, .int .u32 0, .int .u64 0, .int .u32 0, .string ⟨#[]⟩, .string ⟨#[]⟩, .int .i64 0, .int .u8 0, .slice none 0 0, .slice none 0 0, .int .i64 0, .int .i64 0, .bool false, .string ⟨#[]⟩, .slice none 0 0, .int .u32 0, .int .u32 0, .int .u64 0, .int .u32 0, .int .u64 0, .int .u32 0, .string ⟨#[]⟩, .int .u64 0, .int .u32 0] 37))
      have HB4a := Lib.hid (below_alloc' (Below.refl _ w4) (.cells #[.int .u32 0, .int .u32 0, .int .u32 0, .bool false, .int .i64 0, .int .u32 0, .int .u32 0, .int .u64 0, .int .u32 0, .int .u64 0, .int .u32 0, .string ⟨#[]⟩, .string ⟨#[]⟩, .int .i64 0, .int .u8 0, .slice none 0 0, .slice none 0 0, .int .i64 0, .int .i64 0, .bool false, .string ⟨#[]⟩, .slice none 0 0, .int .u32 0, .int .u32 0, .int .u64 0, .int .u32 0, .int .u64 0, .int .u32 0, .string ⟨#[]⟩, .int .u64 0, .int .u32 0] 37))
      have HNE : Hid (w2.heap.size ≠ w4.heap.size) := Lib.hid (by omega)
      clear hI hB hlt HX3 HB3 HIA3 HX4
      go_wp2_with (first | ((with_reducible refine gate_store (t := 37) (p := 5) (v := .tmp 22) rfl ?_); refine store_ev2 (P := Try.prog) rfl 37 (.tmp 5) (.tmp 22) rfl rfl w4.heap.size 0 (.agg #[.int .u32 cl, .int .u32 sh, .int .u32 sq, .bool an, .int .i64 q.k, .int .u32 q.bc, .int .u32 q.bn, .int .u64 q.sp, .int .u32 q.sl, .int .u64 q.ap, .int .u32 q.al, .string q.key, .string q.tt, .int .i64 q.lim, .int .u8 q.parts, .slice B1 q.ws.length d1, .slice B2 q.sk.length d2, .int .i64 r.k, .int .i64 r.er, .bool r.fd, .string r.val, .slice B3 r.ps.length d3, .int .u32 r.wc, .int .u32 r.wn, .int .u64 r.sp, .int .u32 r.sl, .int .u64 r.ap, .int .u32 r.al, .string r.pr, .int .u64 r.np, .int .u32 r.nl]) #[.int .u32 cl, .int .u32 sh, .int .u32 sq, .bool an, .int .i64 q.k, .int .u32 q.bc, .int .u32 q.bn, .int .u64 q.sp, .int .u32 q.sl, .int .u64 q.ap, .int .u32 q.al, .string q.key, .string q.tt, .int .i64 q.lim, .int .u8 q.parts, .slice B1 q.ws.length d1, .slice B2 q.sk.length d2, .int .i64 r.k, .int .i64 r.er, .bool r.fd, .string r.val, .slice B3 r.ps.length d3, .int .u32 r.wc, .int .u32 r.wn, .int .u64 r.sp, .int .u32 r.sl, .int .u64 r.ap, .int .u32 r.al, .string r.pr, .int .u64 r.np, .int .u32 r.nl] rfl rfl rfl 37 _ #[.int .u32 cl, .int .u32 sh, .int .u32 sq, .bool an, .int .i64 q.k, .int .u32 q.bc, .int .u32 q.bn, .int .u64 q.sp, .int .u32 q.sl, .int .u64 q.ap, .int .u32 q.al, .string q.key, .string q.tt, .int .i64 q.lim, .int .u8 q.parts, .slice B1 q.ws.length d1, .slice B2 q.sk.length d2, .int .i64 r.k, .int .i64 r.er, .bool r.fd, .string r.val, .slice B3 r.ps.length d3, .int .u32 r.wc, .int .u32 r.wn, .int .u64 r.sp, .int .u32 r.sl, .int .u64 r.ap, .int .u32 r.al, .string r.pr, .int .u64 r.np, .int .u32 r.nl] HY4.out (by kernel_rfl) (by show 0 + 31 ≤ 31; decide) (by kernel_rfl) (by kernel_rfl) ?_; intro w6 hq hk hb; have HY6 := Lib.hid hq; have HX6 := Lib.hid (blk_keep2 HX5.out hk HNE.out); have hbb := hb w4.heap.size w4 (Nat.le_refl _) HB4a.out; have HIA6 := Lib.hid (HIA4.out.below hbb); have HIB6 := Lib.hid (HIB.out.below hbb); have HB6 := Lib.hid (bel_then HB4.out hbb); clear hbb HY4 HX5 HB4a HB4 HIA4 HIB; clear hq hk hb) | ((with_reducible refine gate_dst (N := 28) rfl ?_); refine gate_guard (by rfl) ?_; refine wpList_load_row rfl 37 (.tmp 3) rfl w2.heap.size rfl 37 _ (0, 0) _ HX6.out Try.underlying37 rfl (by kernel_rfl) ?_) | ((with_reducible refine gate_dst (N := 29) rfl ?_); refine gate_guard (by rfl) ?_; refine wpList_load_row rfl 37 (.tmp 5) rfl w4.heap.size rfl 37 _ (0, 0) _ HY6.out Try.underlying37 rfl (by kernel_rfl) ?_))
      refine (HSM.out _ _ _ _ _ _ _ _ _ _ _ _ _ HIA6.out HIB6.out).mono ?_
      rintro e w7 ⟨rfl, hB⟩
      have HB7 := Lib.hid (bel_then HB6.out hB)
      have HX7 := Lib.hid ((hB.block _ (lt_at2 HX6.out)).trans HX6.out)
      have HIA7 := Lib.hid (HIA6.out.below hB)
      clear hB
      go_wp2_with ((with_reducible refine gate_dst (N := 35) rfl ?_); refine wpList_load_row rfl 37 (.tmp 3) rfl w2.heap.size rfl 37 _ (0, 0) _ HX7.out Try.underlying37 rfl (by kernel_rfl) ?_)
      refine (HSQ.out _ _ _ _ _ _ _ HIA7.out).mono ?_
      rintro e w8 ⟨rfl, hB⟩
      have HB8 := Lib.hid (bel_then HB7.out hB)
      clear hB
      go_wp2_with fail
      go_ret
      exact ⟨rfl, HB8.out⟩
theorem walk_LetterReads (a_0 : ByteArray) (h0 : a_0.size ≤ 140737488351232) (W : World) : Calls Try.prog 4 #[.string a_0] W fun e w' => e = .returned (.bool true) ∧ Below W.heap.size W w' :=
  lreads_calls a_0 (by omega) W
end Go.Proofs.Ytjfokbkfniilhaa

/- LetterApart: two letters that may be written are the same when, and only when, their bytes are. Conditions: those that each theorem names. -/
import Derived.Test.YtjfokbkfniilhaaLo
import Derived.Test.YtjfokbkfniilhaaLk
set_option linter.unusedVariables false
set_option linter.unusedSimpArgs false
set_option linter.constructorNameAsVariable false
namespace Go.Proofs.Ytjfokbkfniilhaa
open Go.RowKit Go.Deep Go.Proofs.YtjfokbkfniilhaaW.PrintWords Go.Proofs.Ytjfokbkfniilhaa.PLa Go.Proofs.Ytjfokbkfniilhaa.PRd
-- ZERO 0 .agg #[.int .u32 0, .int .u32 0, .int .u32 0, .bool false, .int .i64 0, .int .u32 0, .int .u32 0, .int .u64 0, .int .u32 0, .int .u64 0, .int .u32 0, .string ⟨#[]⟩, .string ⟨#[]⟩, .int .i64 0, .int .u8 0, .slice none 0 0, .slice none 0 0, .int .i64 0, .int .i64 0, .bool false, .string ⟨#[]⟩, .slice none 0 0, .int .u32 0, .int .u32 0, .int .u64 0, .int .u32 0, .int .u64 0, .int .u32 0, .string ⟨#[]⟩, .int .u64 0, .int .u32 0]
-- ZERO 1 .agg #[.int .u32 0, .int .u32 0, .int .u32 0, .bool false, .int .i64 0, .int .u32 0, .int .u32 0, .int .u64 0, .int .u32 0, .int .u64 0, .int .u32 0, .string ⟨#[]⟩, .string ⟨#[]⟩, .int .i64 0, .int .u8 0, .slice none 0 0, .slice none 0 0, .int .i64 0, .int .i64 0, .bool false, .string ⟨#[]⟩, .slice none 0 0, .int .u32 0, .int .u32 0, .int .u64 0, .int .u32 0, .int .u64 0, .int .u32 0, .string ⟨#[]⟩, .int .u64 0, .int .u32 0]
def l0 : Lt := ⟨0, 2, 5, false, ⟨9, 0, 1, 0, 0, 0, 0, ⟨#[]⟩, ⟨#[]⟩, 0, 0, [], []⟩, zRp⟩
theorem l0ok : LOk l0 := ⟨⟨by decide, by decide⟩, ⟨by decide, by decide⟩, ⟨by decide, by decide⟩, by constructor <;> first | exact ⟨by decide, by decide⟩ | decide | (intro x hx; cases hx), zpOk⟩
set_option maxRecDepth 100000 in
theorem write_l0 : writeR l0 = (⟨#[0, 2, 5, 0, 9, 0, 1, 0, 0, 0, 0, 0, 0, 0, 0, 0, 0]⟩, 0) := by kernel_rfl
set_option maxRecDepth 100000 in
theorem read_l0 : readR ⟨#[0, 2, 5, 0, 9, 0, 1, 0, 0, 0, 0, 0, 0, 0, 0, 0, 0]⟩ = (l0, 0) := by kernel_rfl
set_option maxRecDepth 100000 in
set_option maxHeartbeats 16000000 in
theorem awake_calls (w : World) : Calls Try.prog 6 #[] w fun e w' => e = .returned (.bool true) ∧ Below w.heap.size w w' := by
  have HX0 := Lib.hid (heap_alloc_new w (.cells #[.int .u32 0, .int .u32 0, .int .u32 0, .bool false, .int .i64 0, .int .u32 0, .int .u32 0, .int .u64 0, .int .u32 0, .int .u64 0, .int .u32 0, .string ⟨#[]⟩, .string ⟨#[]⟩, .int .i64 0, .int .u8 0, .slice none 0 0, .slice none 0 0, .int .i64 0, .int .i64 0, .bool false, .string ⟨#[]⟩, .slice none 0 0, .int .u32 0, .int .u32 0, .int .u64 0, .int .u32 0, .int .u64 0, .int .u32 0, .string ⟨#[]⟩, .int .u64 0, .int .u32 0] 37))
  have HB0 := Lib.hid (below_alloc' (Below.refl _ w) (.cells #[.int .u32 0, .int .u32 0, .int .u32 0, .bool false, .int .i64 0, .int .u32 0, .int .u32 0, .int .u64 0, .int .u32 0, .int .u64 0, .int .u32 0, .string ⟨#[]⟩, .string ⟨#[]⟩, .int .i64 0, .int .u8 0, .slice none 0 0, .slice none 0 0, .int .i64 0, .int .i64 0, .bool false, .string ⟨#[]⟩, .slice none 0 0, .int .u32 0, .int .u32 0, .int .u64 0, .int .u32 0, .int .u64 0, .int .u32 0, .string ⟨#[]⟩, .int .u64 0, .int .u32 0] 37))
  go_enter Try.func6, Try.ntmps6
  go_wp2_with (first | ((with_reducible refine gate_store (t := 37) (p := 1) (v := .tmp 8) rfl ?_); refine store_mid_ev (w0 := w) rfl 37 (.tmp 1) (.tmp 8) rfl rfl w.heap.size 0 #[.int .u32 0, .int .u32 2, .int .u32 5, .bool false, .int .i64 9, .int .u32 0, .int .u32 1, .int .u64 0, .int .u32 0, .int .u64 0, .int .u32 0, .string ⟨#[]⟩, .string ⟨#[]⟩, .int .i64 0, .int .u8 0, .slice none 0 0, .slice none 0 0, .int .i64 0, .int .i64 0, .bool false, .string ⟨#[]⟩, .slice none 0 0, .int .u32 0, .int .u32 0, .int .u64 0, .int .u32 0, .int .u64 0, .int .u32 0, .string ⟨#[]⟩, .int .u64 0, .int .u32 0] rfl rfl 37 _ #[.int .u32 0, .int .u32 2, .int .u32 5, .bool false, .int .i64 9, .int .u32 0, .int .u32 1, .int .u64 0, .int .u32 0, .int .u64 0, .int .u32 0, .string ⟨#[]⟩, .string ⟨#[]⟩, .int .i64 0, .int .u8 0, .slice none 0 0, .slice none 0 0, .int .i64 0, .int .i64 0, .bool false, .string ⟨#[]⟩, .slice none 0 0, .int .u32 0, .int .u32 0, .int .u64 0, .int .u32 0, .int .u64 0, .int .u32 0, .string ⟨#[]⟩, .int .u64 0, .int .u32 0] HX0.out (by kernel_rfl) (by show 0 + 31 ≤ 31; decide) (by kernel_rfl) (by kernel_rfl) HB0.out (Nat.le_refl _) ?_; intro w9 hX9 hK9 hB9; have HX9 := Lib.hid hX9; have HK9 := Lib.hid hK9; have HB9 := Lib.hid hB9; clear hX9 hK9 hB9) | ((with_reducible refine gate_dst (N := 10) rfl ?_); refine wpList_load_row rfl 37 (.tmp 1) rfl w.heap.size rfl 37 _ (0, 0) _ HX9.out Try.underlying37 rfl (by kernel_rfl) ?_))
  have hc := write_calls l0 none none none 0 0 0 w9 l0ok (Kd.C_nil _ _) (Kd.C_nil _ _) (Kd.C_nil _ _)
  rw [write_l0] at hc
  dsimp only at hc
  refine hc.mono ?_
  clear hc
  rintro e w2 ⟨rfl, hB⟩
  have HX2 := Lib.hid ((hB.block _ (lt_at HX9.out)).trans HX9.out)
  have HB2 := Lib.hid (bel_then HB9.out hB)
  clear hB HX9 HK9 HB9 HX0 HB0
  go_wp2_with fail
  have hc := read_calls ⟨#[0, 2, 5, 0, 9, 0, 1, 0, 0, 0, 0, 0, 0, 0, 0, 0, 0]⟩ (by decide) w2
  unfold ReadP at hc
  rw [read_l0] at hc
  dsimp only at hc
  refine hc.mono ?_
  clear hc
  rintro e w3 ⟨A1, c1, A2, c2, A3, c3, rfl, hI, hB⟩
  have HX3 := Lib.hid ((hB.block _ (lt_at HX2.out)).trans HX2.out)
  have HB3 := Lib.hid (bel_then HB2.out hB)
  have HLE : Hid (w.heap.size ≤ w3.heap.size) := Lib.hid HB3.out.size
  have HI := Lib.hid hI
  have HX4 := Lib.hid (heap_alloc_new w3 (.cells #[.int .u32 0, .int .u32 0, .int .u32 0, .bool false, .int .i64 0, .int .u32 0, .int .u32 0, .int .u64 0, .int .u32 0, .int .u64 0, .int .u32 0, .string ⟨#[]⟩, .string ⟨#[]⟩, .int .i64 0, .int .u8 0, .slice none 0 0, .slice none 0 0, .int .i64 0, .int .i64 0, .bool false, .string ⟨#[]⟩, .slice none 0 0, .int .u32 0, .int .u32 0, .int .u64 0, .int .u32 0, .int .u64 0, .int .u32 0, .string ⟨#[]⟩, .int .u64 0, .int .u32 0] 37))
  have HB4 := Lib.hid (below_alloc' (Below.refl _ w3) (.cells #[.int .u32 0, .int .u32 0, .int .u32 0, .bool false, .int .i64 0, .int .u32 0, .int .u32 0, .int .u64 0, .int .u32 0, .int .u64 0, .int .u32 0, .string ⟨#[]⟩, .string ⟨#[]⟩, .int .i64 0, .int .u8 0, .slice none 0 0, .slice none 0 0, .int .i64 0, .int .i64 0, .bool false, .string ⟨#[]⟩, .slice none 0 0, .int .u32 0, .int .u32 0, .int .u64 0, .int .u32 0, .int .u64 0, .int .u32 0, .string ⟨#[]⟩, .int .u64 0, .int .u32 0] 37))
  have hlt : w.heap.size < w3.heap.size := lt_at HX3.out
  have HX5 := Lib.hid ((HB4.out.block _ hlt).trans HX3.out)
  have HNE : Hid (w.heap.size ≠ w3.heap.size) := Lib.hid (by omega)
  have hoka := l0ok
  clear hB hI HX2 HB2 hlt
  go_wp2_with (first | (((with_reducible refine gate_store (t := 37) (p := 4) (v := .tmp 17) rfl ?_); refine store_mid_ev (w0 := w3) rfl 37 (.tmp 4) (.tmp 17) rfl rfl w3.heap.size 0 #[.int .u32 l0.cl, .int .u32 l0.sh, .int .u32 l0.sq, .bool l0.an, .int .i64 l0.q.k, .int .u32 l0.q.bc, .int .u32 l0.q.bn, .int .u64 l0.q.sp, .int .u32 l0.q.sl, .int .u64 l0.q.ap, .int .u32 l0.q.al, .string l0.q.key, .string l0.q.tt, .int .i64 l0.q.lim, .int .u8 l0.q.parts, .slice A1 l0.q.ws.length c1, .slice A2 l0.q.sk.length c2, .int .i64 l0.r.k, .int .i64 l0.r.er, .bool l0.r.fd, .string l0.r.val, .slice A3 l0.r.ps.length c3, .int .u32 l0.r.wc, .int .u32 l0.r.wn, .int .u64 l0.r.sp, .int .u32 l0.r.sl, .int .u64 l0.r.ap, .int .u32 l0.r.al, .string l0.r.pr, .int .u64 l0.r.np, .int .u32 l0.r.nl] rfl rfl 37 _ #[.int .u32 l0.cl, .int .u32 l0.sh, .int .u32 l0.sq, .bool l0.an, .int .i64 l0.q.k, .int .u32 l0.q.bc, .int .u32 l0.q.bn, .int .u64 l0.q.sp, .int .u32 l0.q.sl, .int .u64 l0.q.ap, .int .u32 l0.q.al, .string l0.q.key, .string l0.q.tt, .int .i64 l0.q.lim, .int .u8 l0.q.parts, .slice A1 l0.q.ws.length c1, .slice A2 l0.q.sk.length c2, .int .i64 l0.r.k, .int .i64 l0.r.er, .bool l0.r.fd, .string l0.r.val, .slice A3 l0.r.ps.length c3, .int .u32 l0.r.wc, .int .u32 l0.r.wn, .int .u64 l0.r.sp, .int .u32 l0.r.sl, .int .u64 l0.r.ap, .int .u32 l0.r.al, .string l0.r.pr, .int .u64 l0.r.np, .int .u32 l0.r.nl] HX4.out (by kernel_rfl) (by show 0 + 31 ≤ 31; decide) (by kernel_rfl) (by kernel_rfl) HB4.out (Nat.le_refl _) ?_; intro w9 hX9 hK9 hB9; have HX9 := Lib.hid hX9; have HK9 := Lib.hid hK9; have HB9 := Lib.hid hB9; clear hX9 hK9 hB9); have HX6 := Lib.hid (blk_keep HX5.out HK9.out HNE.out)) | ((with_reducible refine gate_dst (N := 30) rfl ?_); refine gate_guard (by rfl) ?_; refine wpList_load_row rfl 37 (.tmp 1) rfl w.heap.size rfl 37 _ (0, 0) _ HX6.out Try.underlying37 rfl (by kernel_rfl) ?_) | ((with_reducible refine gate_dst (N := 31) rfl ?_); refine gate_guard (by rfl) ?_; refine wpList_load_row rfl 37 (.tmp 4) rfl w3.heap.size rfl 37 _ (0, 0) _ HX9.out Try.underlying37 rfl (by kernel_rfl) ?_))
  have HI6 := Lib.hid (HI.out.below HB9.out)
  have HB6 := Lib.hid (bel_then HB3.out HB9.out)
  refine (same_calls l0 l0 none none none A1 A2 A3 0 0 0 c1 c2 c3 w9 l0ok l0ok ⟨Kd.C_nil _ _, Nat.le_refl _, Kd.C_nil _ _, Nat.le_refl _, Kd.C_nil _ _, Nat.le_refl _⟩ HI6.out).mono ?_
  rintro e w4 ⟨rfl, hB⟩
  rw [eqD_self]
  have HB7 := Lib.hid (bel_then HB6.out hB)
  clear hB
  go_wp2_with fail
  go_ret
  exact ⟨rfl, HB7.out⟩
/-- What Write answers: bytes and OK, or the error. -/
theorem write_ways (l : Lt) : ∃ s e, writeR l = (s, e) ∧ (e = 1 ∨ (e = 0 ∧ rightR l = true ∧ s = encL l)) := by
  unfold writeR
  split
  · rename_i h; exact ⟨_, _, rfl, .inr ⟨rfl, h, rfl⟩⟩
  · exact ⟨_, _, rfl, .inl rfl⟩
set_option maxRecDepth 100000 in
set_option maxHeartbeats 16000000 in
theorem lapart_calls (a b : Lt) (A1 A2 A3 B1 B2 B3 : Option Addr) (c1 c2 c3 d1 d2 d3 : Nat) (w : World) (ha : LOk a) (hb : LOk b) (h1 : LtIn w a A1 c1 A2 c2 A3 c3) (h2 : LtIn w b B1 d1 B2 d2 B3 d3) :
    Calls Try.prog 5 #[.agg #[.int .u32 a.cl, .int .u32 a.sh, .int .u32 a.sq, .bool a.an, .int .i64 a.q.k, .int .u32 a.q.bc, .int .u32 a.q.bn, .int .u64 a.q.sp, .int .u32 a.q.sl, .int .u64 a.q.ap, .int .u32 a.q.al, .string a.q.key, .string a.q.tt, .int .i64 a.q.lim, .int .u8 a.q.parts, .slice A1 a.q.ws.length c1, .slice A2 a.q.sk.length c2, .int .i64 a.r.k, .int .i64 a.r.er, .bool a.r.fd, .string a.r.val, .slice A3 a.r.ps.length c3, .int .u32 a.r.wc, .int .u32 a.r.wn, .int .u64 a.r.sp, .int .u32 a.r.sl, .int .u64 a.r.ap, .int .u32 a.r.al, .string a.r.pr, .int .u64 a.r.np, .int .u32 a.r.nl], .agg #[.int .u32 b.cl, .int .u32 b.sh, .int .u32 b.sq, .bool b.an, .int .i64 b.q.k, .int .u32 b.q.bc, .int .u32 b.q.bn, .int .u64 b.q.sp, .int .u32 b.q.sl, .int .u64 b.q.ap, .int .u32 b.q.al, .string b.q.key, .string b.q.tt, .int .i64 b.q.lim, .int .u8 b.q.parts, .slice B1 b.q.ws.length d1, .slice B2 b.q.sk.length d2, .int .i64 b.r.k, .int .i64 b.r.er, .bool b.r.fd, .string b.r.val, .slice B3 b.r.ps.length d3, .int .u32 b.r.wc, .int .u32 b.r.wn, .int .u64 b.r.sp, .int .u32 b.r.sl, .int .u64 b.r.ap, .int .u32 b.r.al, .string b.r.pr, .int .u64 b.r.np, .int .u32 b.r.nl]] w fun e w' => e = .returned (.bool true) ∧ Below w.heap.size w w' := by
  obtain ⟨sa, ea, hwa, hea⟩ := write_ways a
  obtain ⟨sb, eb, hwb, heb⟩ := write_ways b
  have hwsa : ∀ W, Below w.heap.size w W → _ := fun W (hB : Below w.heap.size w W) => write_calls a A1 A2 A3 c1 c2 c3 W ha (Kd.C_below h1.h1 hB) (Kd.C_below h1.h2 hB) (Kd.C_below h1.h3 hB)
  have hwsb : ∀ W, Below w.heap.size w W → _ := fun W (hB : Below w.heap.size w W) => write_calls b B1 B2 B3 d1 d2 d3 W hb (Kd.C_below h2.h1 hB) (Kd.C_below h2.h2 hB) (Kd.C_below h2.h3 hB)
  rw [hwa] at hwsa
  rw [hwb] at hwsb
  dsimp only at hwsa hwsb
  have HWA := Lib.hid hwsa
  have HWB := Lib.hid hwsb
  have HSM := Lib.hid (fun W (hB : Below w.heap.size w W) => same_calls a b A1 A2 A3 B1 B2 B3 c1 c2 c3 d1 d2 d3 W ha hb (h1.below hB) (h2.below hB))
  have HF : Hid (ea = 0 → eb = 0 → ((sa.toList == sb.toList) == eqD a b) = true) := Lib.hid (by
    intro e1 e2
    rcases hea with h | ⟨_, r1, rfl⟩
    · omega
    rcases heb with h | ⟨_, r2, rfl⟩
    · omega
    rw [beq_iff_eq, Bool.eq_iff_iff, eqD_iff, beq_iff_eq, tl_inj]
    exact ⟨fun h => letterTells a b ha hb r1 r2 h, fun h => by rw [h]⟩)
  have g1 : (a.q.ws.length : Int) ≤ 9223372036854775807 := by have := ha.q.ws; omega
  have g2 : (a.q.sk.length : Int) ≤ 9223372036854775807 := by have := ha.q.sk; omega
  have g3 : (a.r.ps.length : Int) ≤ 9223372036854775807 := by have := ha.r.ps; omega
  have g4 : (b.q.ws.length : Int) ≤ 9223372036854775807 := by have := hb.q.ws; omega
  have g5 : (b.q.sk.length : Int) ≤ 9223372036854775807 := by have := hb.q.sk; omega
  have g6 : (b.r.ps.length : Int) ≤ 9223372036854775807 := by have := hb.r.ps; omega
  clear hwa hwb hwsa hwsb ha hb h1 h2 hea heb
  generalize eqD a b = R at *
  obtain ⟨acl, ash, asq, aan, aq, ar⟩ := a
  obtain ⟨bcl, bsh, bsq, ban, bq, br⟩ := b
  dsimp only at *
  have HB0 := Lib.hid (below_alloc' (below_alloc' (Below.refl _ w) (.cells #[.int .u32 acl, .int .u32 ash, .int .u32 asq, .bool aan, .int .i64 aq.k, .int .u32 aq.bc, .int .u32 aq.bn, .int .u64 aq.sp, .int .u32 aq.sl, .int .u64 aq.ap, .int .u32 aq.al, .string aq.key, .string aq.tt, .int .i64 aq.lim, .int .u8 aq.parts, .slice A1 aq.ws.length c1, .slice A2 aq.sk.length c2, .int .i64 ar.k, .int .i64 ar.er, .bool ar.fd, .string ar.val, .slice A3 ar.ps.length c3, .int .u32 ar.wc, .int .u32 ar.wn, .int .u64 ar.sp, .int .u32 ar.sl, .int .u64 ar.ap, .int .u32 ar.al, .string ar.pr, .int .u64 ar.np, .int .u32 ar.nl] 37)) (.cells #[.int .u32 bcl, .int .u32 bsh, .int .u32 bsq, .bool ban, .int .i64 bq.k, .int .u32 bq.bc, .int .u32 bq.bn, .int .u64 bq.sp, .int .u32 bq.sl, .int .u64 bq.ap, .int .u32 bq.al, .string bq.key, .string bq.tt, .int .i64 bq.lim, .int .u8 bq.parts, .slice B1 bq.ws.length d1, .slice B2 bq.sk.length d2, .int .i64 br.k, .int .i64 br.er, .bool br.fd, .string br.val, .slice B3 br.ps.length d3, .int .u32 br.wc, .int .u32 br.wn, .int .u64 br.sp, .int .u32 br.sl, .int .u64 br.ap, .int .u32 br.al, .string br.pr, .int .u64 br.np, .int .u32 br.nl] 37))
  have HX0 := Lib.hid (((below_alloc (Below.refl _ _) (.cells #[.int .u32 bcl, .int .u32 bsh, .int .u32 bsq, .bool ban, .int .i64 bq.k, .int .u32 bq.bc, .int .u32 bq.bn, .int .u64 bq.sp, .int .u32 bq.sl, .int .u64 bq.ap, .int .u32 bq.al, .string bq.key, .string bq.tt, .int .i64 bq.lim, .int .u8 bq.parts, .slice B1 bq.ws.length d1, .slice B2 bq.sk.length d2, .int .i64 br.k, .int .i64 br.er, .bool br.fd, .string br.val, .slice B3 br.ps.length d3, .int .u32 br.wc, .int .u32 br.wn, .int .u64 br.sp, .int .u32 br.sl, .int .u64 br.ap, .int .u32 br.al, .string br.pr, .int .u64 br.np, .int .u32 br.nl] 37)).block _ (lt_at (heap_alloc_new w (.cells #[.int .u32 acl, .int .u32 ash, .int .u32 asq, .bool aan, .int .i64 aq.k, .int .u32 aq.bc, .int .u32 aq.bn, .int .u64 aq.sp, .int .u32 aq.sl, .int .u64 aq.ap, .int .u32 aq.al, .string aq.key, .string aq.tt, .int .i64 aq.lim, .int .u8 aq.parts, .slice A1 aq.ws.length c1, .slice A2 aq.sk.length c2, .int .i64 ar.k, .int .i64 ar.er, .bool ar.fd, .string ar.val, .slice A3 ar.ps.length c3, .int .u32 ar.wc, .int .u32 ar.wn, .int .u64 ar.sp, .int .u32 ar.sl, .int .u64 ar.ap, .int .u32 ar.al, .string ar.pr, .int .u64 ar.np, .int .u32 ar.nl] 37)))).trans (heap_alloc_new w (.cells #[.int .u32 acl, .int .u32 ash, .int .u32 asq, .bool aan, .int .i64 aq.k, .int .u32 aq.bc, .int .u32 aq.bn, .int .u64 aq.sp, .int .u32 aq.sl, .int .u64 aq.ap, .int .u32 aq.al, .string aq.key, .string aq.tt, .int .i64 aq.lim, .int .u8 aq.parts, .slice A1 aq.ws.length c1, .slice A2 aq.sk.length c2, .int .i64 ar.k, .int .i64 ar.er, .bool ar.fd, .string ar.val, .slice A3 ar.ps.length c3, .int .u32 ar.wc, .int .u32 ar.wn, .int .u64 ar.sp, .int .u32 ar.sl, .int .u64 ar.ap, .int .u32 ar.al, .string ar.pr, .int .u64 ar.np, .int .u32 ar.nl] 37)))
  have HY0 := Lib.hid (heap_alloc2_new w (.cells #[.int .u32 acl, .int .u32 ash, .int .u32 asq, .bool aan, .int .i64 aq.k, .int .u32 aq.bc, .int .u32 aq.bn, .int .u64 aq.sp, .int .u32 aq.sl, .int .u64 aq.ap, .int .u32 aq.al, .string aq.key, .string aq.tt, .int .i64 aq.lim, .int .u8 aq.parts, .slice A1 aq.ws.length c1, .slice A2 aq.sk.length c2, .int .i64 ar.k, .int .i64 ar.er, .bool ar.fd, .string ar.val, .slice A3 ar.ps.length c3, .int .u32 ar.wc, .int .u32 ar.wn, .int .u64 ar.sp, .int .u32 ar.sl, .int .u64 ar.ap, .int .u32 ar.al, .string ar.pr, .int .u64 ar.np, .int .u32 ar.nl] 37) (.cells #[.int .u32 bcl, .int .u32 bsh, .int .u32 bsq, .bool ban, .int .i64 bq.k, .int .u32 bq.bc, .int .u32 bq.bn, .int .u64 bq.sp, .int .u32 bq.sl, .int .u64 bq.ap, .int .u32 bq.al, .string bq.key, .string bq.tt, .int .i64 bq.lim, .int .u8 bq.parts, .slice B1 bq.ws.length d1, .slice B2 bq.sk.length d2, .int .i64 br.k, .int .i64 br.er, .bool br.fd, .string br.val, .slice B3 br.ps.length d3, .int .u32 br.wc, .int .u32 br.wn, .int .u64 br.sp, .int .u32 br.sl, .int .u64 br.ap, .int .u32 br.al, .string br.pr, .int .u64 br.np, .int .u32 br.nl] 37))
  go_enter Try.func5, Try.ntmps5
  go_wp2_with fail
  refine (awake_calls _).mono ?_
  rintro e w1 ⟨rfl, hB⟩
  have HX1 := Lib.hid ((hB.block _ (lt_at HX0.out)).trans HX0.out)
  have HY1 := Lib.hid ((hB.block _ (lt_at HY0.out)).trans HY0.out)
  have HB1 := Lib.hid (bel_then HB0.out hB)
  obtain ⟨hc1, hf1⟩ := bcell hB
  have hz1 : w.heap.size + 1 < w1.heap.size := by have h1 := hB.size; simp at h1; omega
  clear hB HX0 HY0 HB0
  go_wp2_with (first | ((with_reducible refine gate_dst (N := 42) rfl ?_); refine wpList_load_row rfl 37 (.tmp 2) rfl w.heap.size rfl 37 _ (0, 0) _ HX1.out Try.underlying37 rfl (by kernel_rfl) ?_))
  all_goals first | (go_ret; exact ⟨rfl, HB1.out⟩) | skip
  refine (HWA.out _ HB1.out).mono ?_
  rintro e w2 ⟨rfl, hB⟩
  have HX2 := Lib.hid ((hB.block _ (lt_at HX1.out)).trans HX1.out)
  have HY2 := Lib.hid ((hB.block _ (lt_at HY1.out)).trans HY1.out)
  have HB2 := Lib.hid (bel_then HB1.out hB)
  clear hB HX1 HY1 HWA hc1 hf1
  go_wp2_with (first | ((with_reducible refine gate_dst (N := 47) rfl ?_); refine wpList_load_row rfl 37 (.tmp 3) rfl (w.heap.size + 1) rfl 37 _ (0, 0) _ HY2.out Try.underlying37 rfl (by kernel_rfl) ?_))
  refine (HWB.out _ HB2.out).mono ?_
  rintro e w3 ⟨rfl, hB⟩
  have HX3 := Lib.hid ((hB.block _ (lt_at HX2.out)).trans HX2.out)
  have HY3 := Lib.hid ((hB.block _ (lt_at HY2.out)).trans HY2.out)
  have HB3 := Lib.hid (bel_then HB2.out hB)
  clear hB HX2 HY2 HWB
  go_wp2_with (first | ((with_reducible refine gate_dst (N := 60) rfl ?_); refine wpList_load_row rfl 37 (.tmp 2) rfl w.heap.size rfl 37 _ (0, 0) _ HX3.out Try.underlying37 rfl (by kernel_rfl) ?_) | ((with_reducible refine gate_dst (N := 61) rfl ?_); refine wpList_load_row rfl 37 (.tmp 3) rfl (w.heap.size + 1) rfl 37 _ (0, 0) _ HY3.out Try.underlying37 rfl (by kernel_rfl) ?_))
  all_goals first | (go_ret; exact ⟨rfl, HB3.out⟩) | skip
  refine (HSM.out _ HB3.out).mono ?_
  rintro e w4 ⟨rfl, hB⟩
  have HB4 := Lib.hid (bel_then HB3.out hB)
  clear hB
  go_wp2_with fail
  go_ret
  exact ⟨by show Ending.returned (.bool ((sa.toList == sb.toList) == R)) = _; rw [HF.out (by first | assumption | rfl | simp_all) (by first | assumption | (rename (eb != 0) = false => he; simpa using he))], HB4.out⟩
theorem walk_LetterApart {H : Type} {enc : TypeId × Value → H} (W : World) (v0 : Value) (d0 : DataW H) (p0 : List MemPlace) (v1 : Value) (d1 : DataW H) (p1 : List MemPlace)
    (h0 : DataW.Trod enc Try.prog W 0 (fun _ => true) true 37 v0 d0 p0) {base0 : Nat} (u0 : Value.okWide Try.prog W .any base0 37 v0) (z0 : ∀ n ∈ DataW.weights Try.prog 37 d0, n ≤ reachBytes)
    (h1 : DataW.Trod enc Try.prog W 0 (fun _ => true) true 37 v1 d1 p1) {base1 : Nat} (u1 : Value.okWide Try.prog W .any base1 37 v1) (z1 : ∀ n ∈ DataW.weights Try.prog 37 d1, n ≤ reachBytes) :
    Calls Try.prog 5 #[v0, v1] W fun e w' => e = .returned (.bool true) ∧ Below W.heap.size W w' := by
  obtain ⟨a, A1, c1, A2, c2, A3, c3, rfl, hA, okA⟩ := letter_open W v0 d0 p0 h0 u0
  obtain ⟨b, B1, d1, B2, d2, B3, d3, rfl, hB, okB⟩ := letter_open W v1 d1 p1 h1 u1
  exact lapart_calls a b A1 A2 A3 B1 B2 B3 c1 c2 c3 d1 d2 d3 W (okA (by have := hA.h1.2.1; omega) (by have := hA.h2.2.1; omega) (by have := hA.h3.2.1; omega)) (okB (by have := hB.h1.2.1; omega) (by have := hB.h2.2.1; omega) (by have := hB.h3.2.1; omega)) hA hB
end Go.Proofs.Ytjfokbkfniilhaa

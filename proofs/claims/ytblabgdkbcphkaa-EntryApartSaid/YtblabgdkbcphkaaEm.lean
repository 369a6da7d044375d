/- EntryApart: two right entries that have the same bytes are the same. EntryCuts: no beginning of an entry's bytes, and nothing that goes on behind them, is an entry. Conditions: those that each theorem names. -/
import Derived.Test.YtblabgdkbcphkaaEl
import Derived.WalkSpells
set_option linter.unusedVariables false
set_option linter.unusedSimpArgs false
set_option linter.constructorNameAsVariable false
namespace Go.Proofs.Ytblabgdkbcphkaa
open Go.RowKit Go.Deep Go.Proofs.YtblabgdkbcphkaaW.PrintWords Go.Proofs.Ytblabgdkbcphkaa.PEs Go.Proofs.Ytblabgdkbcphkaa.PRd
-- ZERO 0 .agg #[.int .i64 0, .int .u32 0, .int .u32 0, .int .u64 0, .int .u32 0, .int .u64 0, .int .u32 0, .int .u64 0, .int .u32 0, .string ⟨#[]⟩, .int .u8 0, .bool false, .slice none 0 0]
-- ZERO 1 .agg #[.int .i64 0, .int .u32 0, .int .u32 0, .int .u64 0, .int .u32 0, .int .u64 0, .int .u32 0, .int .u64 0, .int .u32 0, .string ⟨#[]⟩, .int .u8 0, .bool false, .slice none 0 0]
theorem cat3 {x m : Nat} (h : x ≤ m) : ((x ≤ m) = True) ∧ (decide (x ≤ m) = true) ∧ ((m < x) = False) := ⟨eq_true h, decide_eq_true h, eq_false (Nat.not_lt.2 h)⟩
theorem bel_then {w wr w1 : World} (h : Below w.heap.size w wr) (h1 : Below wr.heap.size wr w1) : Below w.heap.size w w1 := h.trans (h1.mono h.size)
def x0 : En := ⟨7, 1, 2, 0, 0, 0, 0, 0, 0, ⟨#[]⟩, 0, false, []⟩
theorem x0ok : EOk x0 := by constructor <;> first | exact ⟨by decide, by decide⟩ | decide
set_option maxRecDepth 100000 in
theorem write_x0 : writeE x0 = (⟨#[7, 1, 2]⟩, 0) := by kernel_rfl
set_option maxRecDepth 100000 in
theorem read_x0 : readE ⟨#[7, 1, 2]⟩ = (x0, 0) := by kernel_rfl
set_option maxRecDepth 100000 in
set_option maxHeartbeats 16000000 in
theorem awake_calls (w : World) : Calls Try.prog 7 #[] w fun e w' => e = .returned (.bool true) ∧ Below w.heap.size w w' := by
  go_enter Try.func7, Try.ntmps7
  go_wp2_with fail
  have hc := write_calls x0 none 0 w x0ok (Kd.C_nil _ _)
  rw [write_x0] at hc
  dsimp only at hc
  refine hc.mono ?_
  clear hc
  rintro e w2 ⟨rfl, hB⟩
  have HB2 := Lib.hid hB
  clear hB
  go_wp2_with fail
  have hc := read_calls ⟨#[7, 1, 2]⟩ (by decide) w2
  unfold ReadP EnV at hc
  rw [read_x0] at hc
  dsimp only at hc
  refine hc.mono ?_
  clear hc
  rintro e w3 ⟨A, c, rfl, hI, hz, hB⟩
  have HB3 := Lib.hid (bel_then HB2.out hB)
  have HX4 := Lib.hid (heap_alloc_new w3 (.cells #[.int .i64 0, .int .u32 0, .int .u32 0, .int .u64 0, .int .u32 0, .int .u64 0, .int .u32 0, .int .u64 0, .int .u32 0, .string ⟨#[]⟩, .int .u8 0, .bool false, .slice none 0 0] 30))
  have HB4 := Lib.hid (below_alloc' HB3.out (.cells #[.int .i64 0, .int .u32 0, .int .u32 0, .int .u64 0, .int .u32 0, .int .u64 0, .int .u32 0, .int .u64 0, .int .u32 0, .string ⟨#[]⟩, .int .u8 0, .bool false, .slice none 0 0] 30))
  have HGE := Lib.hid HB3.out.size
  clear hB hI hz HB2
  go_wp2_with ((with_reducible refine gate_store (t := 30) (p := 3) (v := .tmp 13) rfl ?_); refine store_ev2 (P := Try.prog) rfl 30 (.tmp 3) (.tmp 13) rfl rfl w3.heap.size 0 (.agg #[.int .i64 x0.k, .int .u32 x0.bc, .int .u32 x0.bn, .int .u64 x0.sp, .int .u32 x0.sl, .int .u64 x0.ap, .int .u32 x0.al, .int .u64 x0.mp, .int .u32 x0.ml, .string x0.pr, .int .u8 x0.parts, .bool x0.done, .slice A x0.ws.length c]) #[.int .i64 x0.k, .int .u32 x0.bc, .int .u32 x0.bn, .int .u64 x0.sp, .int .u32 x0.sl, .int .u64 x0.ap, .int .u32 x0.al, .int .u64 x0.mp, .int .u32 x0.ml, .string x0.pr, .int .u8 x0.parts, .bool x0.done, .slice A x0.ws.length c] rfl rfl rfl 30 _ #[.int .i64 x0.k, .int .u32 x0.bc, .int .u32 x0.bn, .int .u64 x0.sp, .int .u32 x0.sl, .int .u64 x0.ap, .int .u32 x0.al, .int .u64 x0.mp, .int .u32 x0.ml, .string x0.pr, .int .u8 x0.parts, .bool x0.done, .slice A x0.ws.length c] HX4.out (by kernel_rfl) (by show 0 + 13 ≤ 13; decide) (by kernel_rfl) (by kernel_rfl) ?_; intro w9 hq hk hb; have HX9 := Lib.hid hq; have HB9 := Lib.hid (hb _ _ HGE.out HB4.out); have y0 := (blk_cell HX9.out 0).trans (show _ = some (.int .i64 7) from rfl); have y2 := (blk_cell HX9.out 2).trans (show _ = some (.int .u32 2) from rfl); clear hq hk hb)
  go_ret
  exact ⟨rfl, HB9.out⟩
/-- What Write answers: bytes and OK, or the error. -/
theorem write_ways (l : En) : ∃ s e, writeE l = (s, e) ∧ (e = 1 ∨ (e = 0 ∧ rightE l = true ∧ s = encE l)) := by
  unfold writeE
  split
  · rename_i h; exact ⟨_, _, rfl, .inr ⟨rfl, h, rfl⟩⟩
  · exact ⟨_, _, rfl, .inl rfl⟩
set_option maxRecDepth 100000 in
set_option maxHeartbeats 16000000 in
theorem eapart_calls (a b : En) (A B : Option Addr) (c d : Nat) (w : World) (ha : EOk a) (hb : EOk b) (h1 : EnIn w a A c) (h2 : EnIn w b B d) :
    Calls Try.prog 5 #[.agg #[.int .i64 a.k, .int .u32 a.bc, .int .u32 a.bn, .int .u64 a.sp, .int .u32 a.sl, .int .u64 a.ap, .int .u32 a.al, .int .u64 a.mp, .int .u32 a.ml, .string a.pr, .int .u8 a.parts, .bool a.done, .slice A a.ws.length c], .agg #[.int .i64 b.k, .int .u32 b.bc, .int .u32 b.bn, .int .u64 b.sp, .int .u32 b.sl, .int .u64 b.ap, .int .u32 b.al, .int .u64 b.mp, .int .u32 b.ml, .string b.pr, .int .u8 b.parts, .bool b.done, .slice B b.ws.length d]] w fun e w' => e = .returned (.bool true) ∧ Below w.heap.size w w' := by
  obtain ⟨sa, ea, hwa, hea⟩ := write_ways a
  obtain ⟨sb, eb, hwb, heb⟩ := write_ways b
  have hwsa : ∀ W, Below w.heap.size w W → _ := fun W (hB : Below w.heap.size w W) => write_calls a A c W ha (Kd.C_below h1.h hB)
  have hwsb : ∀ W, Below w.heap.size w W → _ := fun W (hB : Below w.heap.size w W) => write_calls b B d W hb (Kd.C_below h2.h hB)
  rw [hwa] at hwsa
  rw [hwb] at hwsb
  dsimp only at hwsa hwsb
  have HWA := Lib.hid hwsa
  have HWB := Lib.hid hwsb
  have HSM := Lib.hid (fun W (hB : Below w.heap.size w W) => same_calls a b A B c d W ha.ws ⟨Kd.C_below h1.h hB, h1.z⟩ ⟨Kd.C_below h2.h hB, h2.z⟩)
  have HF : Hid (ea = 0 → eb = 0 → ((sa.toList == sb.toList) == eqD a b) = true) := Lib.hid (by
    intro e1 e2
    rcases hea with h | ⟨_, r1, rfl⟩
    · omega
    rcases heb with h | ⟨_, r2, rfl⟩
    · omega
    rw [beq_iff_eq, Bool.eq_iff_iff, eqD_iff, beq_iff_eq, tl_inj]
    exact ⟨fun h => (enc_tells a b (fits_of a ha r1) (fits_of b hb r2) ByteArray.empty ByteArray.empty (by rw [h])).1, fun h => by rw [h]⟩)
  have g1 : (a.ws.length : Int) ≤ 9223372036854775807 := by have := ha.ws; omega
  have g4 : (b.ws.length : Int) ≤ 9223372036854775807 := by have := hb.ws; omega
  clear hwa hwb hwsa hwsb ha hb h1 h2 hea heb
  generalize eqD a b = R at *
  obtain ⟨a_k, a_bc, a_bn, a_sp, a_sl, a_ap, a_al, a_mp, a_ml, a_pr, a_parts, a_done, a_ws⟩ := a
  obtain ⟨b_k, b_bc, b_bn, b_sp, b_sl, b_ap, b_al, b_mp, b_ml, b_pr, b_parts, b_done, b_ws⟩ := b
  dsimp only at *
  go_enter Try.func5, Try.ntmps5
  go_upto_region 0 with (fail)
  go_step
  (with_reducible refine gate_dst (N := 2) rfl ?_)
  refine box_event ?hg2 (N := 2) ?hd2 (cs := #[.int .i64 a_k, .int .u32 a_bc, .int .u32 a_bn, .int .u64 a_sp, .int .u32 a_sl, .int .u64 a_ap, .int .u32 a_al, .int .u64 a_mp, .int .u32 a_ml, .string a_pr, .int .u8 a_parts, .bool a_done, .slice A a_ws.length c]) (t := 30) ?hr2 ?_
  case hd2 => rfl
  case hg2 => rfl
  case hr2 => kernel_rfl
  intro ga hgb wa hbox hbb
  have HBa := Lib.hid hbb
  have HXa := Lib.hid hbox
  clear hgb hbox hbb
  (with_reducible refine gate_dst (N := 3) rfl ?_)
  refine box_event ?hg3 (N := 3) ?hd3 (cs := #[.int .i64 b_k, .int .u32 b_bc, .int .u32 b_bn, .int .u64 b_sp, .int .u32 b_sl, .int .u64 b_ap, .int .u32 b_al, .int .u64 b_mp, .int .u32 b_ml, .string b_pr, .int .u8 b_parts, .bool b_done, .slice B b_ws.length d]) (t := 30) ?hr3 ?_
  case hd3 => rfl
  case hg3 => rfl
  case hr3 => kernel_rfl
  intro gb hgb wb hbox hbb
  have HBb := Lib.hid hbb
  have HY0 := Lib.hid hbox
  clear hgb hbox hbb
  have HX0 := Lib.hid ((HBb.out.block _ (lt_at2 HXa.out)).trans HXa.out)
  have HB0 := Lib.hid (bel_then HBa.out HBb.out)
  clear HXa HBa HBb
  go_wp2_with fail
  refine (awake_calls _).mono ?_
  rintro e w1 ⟨rfl, hB⟩
  have HX1 := Lib.hid ((hB.block _ (lt_at2 HX0.out)).trans HX0.out)
  have HY1 := Lib.hid ((hB.block _ (lt_at2 HY0.out)).trans HY0.out)
  have HB1 := Lib.hid (bel_then HB0.out hB)
  clear hB HX0 HY0 HB0
  have c12 : w1.cell? ⟨ga, 12, none⟩ = some (.slice A a_ws.length c) := (blk_cell HX1.out 12).trans rfl
  have d12 : w1.cell? ⟨gb, 12, none⟩ = some (.slice B b_ws.length d) := (blk_cell HY1.out 12).trans rfl
  go_wp2_with ((with_reducible refine gate_dst (N := 20) rfl ?_); refine wpList_load_row rfl 30 (.tmp 2) rfl ga rfl 30 _ (0, 0) _ HX1.out Try.underlying30 rfl (by kernel_rfl) ?_)
  all_goals first | (go_ret; exact ⟨rfl, HB1.out⟩) | skip
  refine (HWA.out _ HB1.out).mono ?_
  rintro e w2 ⟨rfl, hB⟩
  have HX2 := Lib.hid ((hB.block _ (lt_at2 HX1.out)).trans HX1.out)
  have HY2 := Lib.hid ((hB.block _ (lt_at2 HY1.out)).trans HY1.out)
  have HB2 := Lib.hid (bel_then HB1.out hB)
  clear hB HX1 HY1 HWA c12 d12
  go_wp2_with ((with_reducible refine gate_dst (N := 25) rfl ?_); refine wpList_load_row rfl 30 (.tmp 3) rfl gb rfl 30 _ (0, 0) _ HY2.out Try.underlying30 rfl (by kernel_rfl) ?_)
  refine (HWB.out _ HB2.out).mono ?_
  rintro e w3 ⟨rfl, hB⟩
  have HX3 := Lib.hid ((hB.block _ (lt_at2 HX2.out)).trans HX2.out)
  have HY3 := Lib.hid ((hB.block _ (lt_at2 HY2.out)).trans HY2.out)
  have HB3 := Lib.hid (bel_then HB2.out hB)
  clear hB HX2 HY2 HWB
  go_wp2_with (first | ((with_reducible refine gate_dst (N := 38) rfl ?_); refine wpList_load_row rfl 30 (.tmp 2) rfl ga rfl 30 _ (0, 0) _ HX3.out Try.underlying30 rfl (by kernel_rfl) ?_) | ((with_reducible refine gate_dst (N := 39) rfl ?_); refine wpList_load_row rfl 30 (.tmp 3) rfl gb rfl 30 _ (0, 0) _ HY3.out Try.underlying30 rfl (by kernel_rfl) ?_))
  all_goals first | (go_ret; exact ⟨rfl, HB3.out⟩) | skip
  refine (HSM.out _ HB3.out).mono ?_
  rintro e w4 ⟨rfl, hB⟩
  have HB4 := Lib.hid (bel_then HB3.out hB)
  clear hB
  go_wp2_with fail
  go_ret
  exact ⟨by show Ending.returned (.bool ((sa.toList == sb.toList) == R)) = _; rw [HF.out (by first | assumption | rfl | simp_all) (by first | assumption | (rename (eb != 0) = false => he; simpa using he))], HB4.out⟩
theorem walk_EntryApart {H : Type} {enc : TypeId × Value → H} (W : World) (v0 : Value) (d0 : DataW H) (p0 : List MemPlace) (v1 : Value) (d1 : DataW H) (p1 : List MemPlace)
    (h0 : DataW.Trod enc Try.prog W 0 (fun _ => true) true 30 v0 d0 p0) {base0 : Nat} (u0 : Value.okWide Try.prog W .any base0 30 v0) (z0 : ∀ n ∈ DataW.weights Try.prog 30 d0, n ≤ reachBytes)
    (h1 : DataW.Trod enc Try.prog W 0 (fun _ => true) true 30 v1 d1 p1) {base1 : Nat} (u1 : Value.okWide Try.prog W .any base1 30 v1) (z1 : ∀ n ∈ DataW.weights Try.prog 30 d1, n ≤ reachBytes) :
    Calls Try.prog 5 #[v0, v1] W fun e w' => e = .returned (.bool true) ∧ Below W.heap.size W w' := by
  obtain ⟨a, A, c, rfl, hA, okA⟩ := entry_open W v0 d0 p0 h0 u0
  obtain ⟨b, B, d, rfl, hB, okB⟩ := entry_open W v1 d1 p1 h1 u1
  exact eapart_calls a b A B c d W okA okB hA hB
set_option maxRecDepth 100000 in
set_option maxHeartbeats 16000000 in
theorem ecuts_calls (e : En) (cut : Int) (more : ByteArray) (A : Option Addr) (c : Nat) (w : World) (hok : EOk e) (hin : EnIn w e A c) (hm : more.size ≤ 140737488351232) (hcut : (Lit.int .i64 cut).wf = true) :
    Calls Try.prog 6 #[.agg #[.int .i64 e.k, .int .u32 e.bc, .int .u32 e.bn, .int .u64 e.sp, .int .u32 e.sl, .int .u64 e.ap, .int .u32 e.al, .int .u64 e.mp, .int .u32 e.ml, .string e.pr, .int .u8 e.parts, .bool e.done, .slice A e.ws.length c], .int .i64 cut, .string more] w fun e w' => e = .returned (.bool true) ∧ Below w.heap.size w w' := by
  obtain ⟨s, er, hwa, hea⟩ := write_ways e
  have hwsa : ∀ W, Below w.heap.size w W → _ := fun W (hB : Below w.heap.size w W) => write_calls e A c W hok (Kd.C_below hin.h hB)
  rw [hwa] at hwsa
  dsimp only at hwsa
  have HWA := Lib.hid hwsa
  have hsz : s.size ≤ 7000 ∨ er = 1 := by
    rcases hea with h | ⟨_, r, rfl⟩
    · exact .inr h
    · exact .inl (enc_size e (fits_of e hok r))
  have HF : Hid (er = 0 → ∀ n : Nat, n < s.size → readE (s.extract 0 n) = (zE, 2)) := Lib.hid (by
    intro e1 n hn
    rcases hea with h | ⟨_, r, rfl⟩
    · omega
    refine read_less e hok r _ ((encE e).extract n (encE e).size) (extract_both _ n).symm (fun h => ?_)
    have h2 := congrArg ByteArray.size h
    rw [ByteArray.size_extract] at h2
    have h3 : ByteArray.empty.size = 0 := rfl
    omega)
  have HG : Hid (er = 0 → more.toList ≠ [] → readE (s ++ more) = (zE, 2)) := Lib.hid (by
    intro e1 hne
    rcases hea with h | ⟨_, r, rfl⟩
    · omega
    exact read_more e hok r more (fun h => hne (by rw [h, ByteArray.toList_eq]; rfl)))
  have HER : Hid (er = 0 ∨ er = 1) := Lib.hid (by rcases hea with h | h; exact .inr h; exact .inl h.1)
  have g1 : (e.ws.length : Int) ≤ 9223372036854775807 := by have := hok.ws; omega
  have hcw := Go.bounds_i64 hcut
  obtain ⟨hc1, hc2⟩ := hcw
  clear hwa hwsa hok hin hea hcut
  obtain ⟨e_k, e_bc, e_bn, e_sp, e_sl, e_ap, e_al, e_mp, e_ml, e_pr, e_parts, e_done, e_ws⟩ := e
  dsimp only at *
  go_enter Try.func6, Try.ntmps6
  go_upto_region 0 with (fail)
  go_step
  (with_reducible refine gate_dst (N := 3) rfl ?_)
  refine box_event ?hg3 (N := 3) ?hd3 (cs := #[.int .i64 e_k, .int .u32 e_bc, .int .u32 e_bn, .int .u64 e_sp, .int .u32 e_sl, .int .u64 e_ap, .int .u32 e_al, .int .u64 e_mp, .int .u32 e_ml, .string e_pr, .int .u8 e_parts, .bool e_done, .slice A e_ws.length c]) (t := 30) ?hr3 ?_
  case hd3 => rfl
  case hg3 => rfl
  case hr3 => kernel_rfl
  intro ga hgb w0 hbox hbb
  have HB0 := Lib.hid hbb
  have HX0 := Lib.hid hbox
  clear hgb hbox hbb
  go_wp2_with fail
  refine (awake_calls _).mono ?_
  rintro r w1 ⟨rfl, hB⟩
  have HX1 := Lib.hid ((hB.block _ (lt_at2 HX0.out)).trans HX0.out)
  have HB1 := Lib.hid (bel_then HB0.out hB)
  clear hB HX0 HB0
  have c12 : w1.cell? ⟨ga, 12, none⟩ = some (.slice A e_ws.length c) := (blk_cell HX1.out 12).trans rfl
  by_cases hl : 16 < e_ws.length
  · have d1 : decide ((16 : Int) < (e_ws.length : Int)) = true := decide_eq_true (by omega)
    have d2 : decide (16 < e_ws.length) = true := decide_eq_true hl
    go_wp2_with fail
    go_ret
    exact ⟨rfl, HB1.out⟩
  have d1 : decide ((16 : Int) < (e_ws.length : Int)) = false := decide_eq_false (by omega)
  have d2 : decide (16 < e_ws.length) = false := decide_eq_false hl
  by_cases hme : more.toList = []
  · have d3 : more.toList.isEmpty = true := by rw [hme]; rfl
    clear hme
    go_wp2_with fail
    go_ret
    exact ⟨rfl, HB1.out⟩
  have d3 : more.toList.isEmpty = false := by cases hq : more.toList with | nil => exact absurd hq hme | cons => rfl
  have d4 : (more.toList == []) = false := by simpa using hme
  have HME := Lib.hid hme
  clear hme
  go_wp2_with ((with_reducible refine gate_dst (N := 24) rfl ?_); refine wpList_load_row rfl 30 (.tmp 3) rfl ga rfl 30 _ (0, 0) _ HX1.out Try.underlying30 rfl (by kernel_rfl) ?_)
  refine (HWA.out _ HB1.out).mono ?_
  rintro r w2 ⟨rfl, hB⟩
  have HB2 := Lib.hid (bel_then HB1.out hB)
  clear hB HX1 HWA c12 d1 d2 hl
  by_cases her : er = 0
  case neg =>
    have d5 : (er == 0) = false := by simpa using her
    have d6 : (er != 0) = true := by simpa using her
    clear her
    go_wp2_with fail
    go_ret
    exact ⟨rfl, HB2.out⟩
  subst her
  have hs7 : s.size ≤ 7000 := by rcases hsz with h | h; exact h; omega
  clear hsz
  by_cases hneg : cut < 0
  · have d5 : decide (cut < 0) = true := decide_eq_true hneg
    go_wp2_with fail
    go_ret
    exact ⟨rfl, HB2.out⟩
  obtain ⟨n, rfl⟩ := Int.eq_ofNat_of_zero_le (show 0 ≤ cut by omega)
  have d5 : decide ((n : Int) < 0) = false := decide_eq_false (by omega)
  by_cases hge : s.size ≤ n
  · have d6 : decide ((s.size : Int) ≤ (n : Int)) = true := decide_eq_true (by omega)
    have d7 : decide (s.size ≤ n) = true := decide_eq_true hge
    go_wp2_with fail
    go_ret
    exact ⟨rfl, HB2.out⟩
  have d6 : decide ((s.size : Int) ≤ (n : Int)) = false := decide_eq_false (by omega)
  have d7 : decide (s.size ≤ n) = false := decide_eq_false hge
  have hlt : n < s.size := by omega
  clear hge hneg
  have HR1 := Lib.hid (HF.out rfl n hlt)
  have HR2 := Lib.hid (HG.out rfl HME.out)
  clear HF HG
  go_wp2_with fail
  have hc := read_calls (s.extract 0 n) (by rw [ByteArray.size_extract]; omega) w2
  unfold ReadP EnV at hc
  rw [HR1.out] at hc
  dsimp only at hc
  refine hc.mono ?_
  clear hc
  rintro r w3 ⟨A3, c3, rfl, hI, hz, hB⟩
  have HB3 := Lib.hid (bel_then HB2.out hB)
  have HX4 := Lib.hid (heap_alloc_new w3 (.cells #[.int .i64 0, .int .u32 0, .int .u32 0, .int .u64 0, .int .u32 0, .int .u64 0, .int .u32 0, .int .u64 0, .int .u32 0, .string ⟨#[]⟩, .int .u8 0, .bool false, .slice none 0 0] 30))
  have HB4 := Lib.hid (below_alloc' HB3.out (.cells #[.int .i64 0, .int .u32 0, .int .u32 0, .int .u64 0, .int .u32 0, .int .u64 0, .int .u32 0, .int .u64 0, .int .u32 0, .string ⟨#[]⟩, .int .u8 0, .bool false, .slice none 0 0] 30))
  have HGE := Lib.hid HB3.out.size
  clear hB hI hz HB2 HR1 d5 d6 d7
  obtain ⟨ca, cb, cc⟩ := cat3 (show s.size + more.size ≤ 9223372036854775807 by omega)
  go_wp2_with ((with_reducible refine gate_store (t := 30) (p := 9) (v := .tmp 45) rfl ?_); refine store_ev2 (P := Try.prog) rfl 30 (.tmp 9) (.tmp 45) rfl rfl w3.heap.size 0 (.agg #[.int .i64 zE.k, .int .u32 zE.bc, .int .u32 zE.bn, .int .u64 zE.sp, .int .u32 zE.sl, .int .u64 zE.ap, .int .u32 zE.al, .int .u64 zE.mp, .int .u32 zE.ml, .string zE.pr, .int .u8 zE.parts, .bool zE.done, .slice A3 zE.ws.length c3]) #[.int .i64 zE.k, .int .u32 zE.bc, .int .u32 zE.bn, .int .u64 zE.sp, .int .u32 zE.sl, .int .u64 zE.ap, .int .u32 zE.al, .int .u64 zE.mp, .int .u32 zE.ml, .string zE.pr, .int .u8 zE.parts, .bool zE.done, .slice A3 zE.ws.length c3] rfl rfl rfl 30 _ #[.int .i64 zE.k, .int .u32 zE.bc, .int .u32 zE.bn, .int .u64 zE.sp, .int .u32 zE.sl, .int .u64 zE.ap, .int .u32 zE.al, .int .u64 zE.mp, .int .u32 zE.ml, .string zE.pr, .int .u8 zE.parts, .bool zE.done, .slice A3 zE.ws.length c3] HX4.out (by kernel_rfl) (by show 0 + 13 ≤ 13; decide) (by kernel_rfl) (by kernel_rfl) ?_; intro w9 hq hk hb; have HX9 := Lib.hid hq; have HB9 := Lib.hid (hb _ _ HGE.out HB4.out); clear hq hk hb)
  have hc := read_calls (s ++ more) (by rw [ByteArray.size_append]; omega) w9
  unfold ReadP EnV at hc
  rw [HR2.out] at hc
  dsimp only at hc
  refine hc.mono ?_
  clear hc
  rintro r w5 ⟨A5, c5, rfl, hI, hz, hB⟩
  have HB5 := Lib.hid (bel_then HB9.out hB)
  have HX4 := Lib.hid (heap_alloc_new w5 (.cells #[.int .i64 0, .int .u32 0, .int .u32 0, .int .u64 0, .int .u32 0, .int .u64 0, .int .u32 0, .int .u64 0, .int .u32 0, .string ⟨#[]⟩, .int .u8 0, .bool false, .slice none 0 0] 30))
  have HB4 := Lib.hid (below_alloc' HB5.out (.cells #[.int .i64 0, .int .u32 0, .int .u32 0, .int .u64 0, .int .u32 0, .int .u64 0, .int .u32 0, .int .u64 0, .int .u32 0, .string ⟨#[]⟩, .int .u8 0, .bool false, .slice none 0 0] 30))
  have HGE := Lib.hid HB5.out.size
  clear hB hI hz HB9 HR2
  go_wp2_with ((with_reducible refine gate_store (t := 30) (p := 11) (v := .tmp 52) rfl ?_); refine store_ev2 (P := Try.prog) rfl 30 (.tmp 11) (.tmp 52) rfl rfl w5.heap.size 0 (.agg #[.int .i64 zE.k, .int .u32 zE.bc, .int .u32 zE.bn, .int .u64 zE.sp, .int .u32 zE.sl, .int .u64 zE.ap, .int .u32 zE.al, .int .u64 zE.mp, .int .u32 zE.ml, .string zE.pr, .int .u8 zE.parts, .bool zE.done, .slice A5 zE.ws.length c5]) #[.int .i64 zE.k, .int .u32 zE.bc, .int .u32 zE.bn, .int .u64 zE.sp, .int .u32 zE.sl, .int .u64 zE.ap, .int .u32 zE.al, .int .u64 zE.mp, .int .u32 zE.ml, .string zE.pr, .int .u8 zE.parts, .bool zE.done, .slice A5 zE.ws.length c5] rfl rfl rfl 30 _ #[.int .i64 zE.k, .int .u32 zE.bc, .int .u32 zE.bn, .int .u64 zE.sp, .int .u32 zE.sl, .int .u64 zE.ap, .int .u32 zE.al, .int .u64 zE.mp, .int .u32 zE.ml, .string zE.pr, .int .u8 zE.parts, .bool zE.done, .slice A5 zE.ws.length c5] HX4.out (by kernel_rfl) (by show 0 + 13 ≤ 13; decide) (by kernel_rfl) (by kernel_rfl) ?_; intro w19 hq hk hb; have HX9 := Lib.hid hq; have HB9 := Lib.hid (hb _ _ HGE.out HB4.out); clear hq hk hb)
  go_ret
  exact ⟨rfl, HB9.out⟩
theorem walk_EntryCuts {H : Type} {enc : TypeId × Value → H} (W : World) (v0 : Value) (d0 : DataW H) (p0 : List MemPlace) (a1 : Int) (a2 : ByteArray)
    (h0 : DataW.Trod enc Try.prog W 0 (fun _ => true) true 30 v0 d0 p0) {base0 : Nat} (u0 : Value.okWide Try.prog W .any base0 30 v0) (z0 : ∀ n ∈ DataW.weights Try.prog 30 d0, n ≤ reachBytes)
    (w1 : (Lit.int .i64 a1).wf = true) (w2 : a2.size ≤ 140737488351232) :
    Calls Try.prog 6 #[v0, .int .i64 a1, .string a2] W fun e w' => e = .returned (.bool true) ∧ Below W.heap.size W w' := by
  obtain ⟨a, A, c, rfl, hA, okA⟩ := entry_open W v0 d0 p0 h0 u0
  exact ecuts_calls a a1 a2 A c W okA hA w2 w1

end Go.Proofs.Ytblabgdkbcphkaa

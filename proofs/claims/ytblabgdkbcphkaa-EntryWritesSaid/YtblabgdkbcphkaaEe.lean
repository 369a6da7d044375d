/- Which entries are right: entry's spare and Right. Conditions: those that each theorem names. -/
import Derived.Test.YtblabgdkbcphkaaEd
import Derived.KernelRfl
import Derived.Test.YtblabgdkbcphkaaWEqStruct
import Derived.Deep.Cut
set_option linter.unusedVariables false
set_option linter.unusedSimpArgs false
set_option linter.constructorNameAsVariable false
namespace Go.Proofs.Ytblabgdkbcphkaa
open Go.RowKit Go.Proofs.YtblabgdkbcphkaaW.PrintWords Go.Proofs.Ytblabgdkbcphkaa.PEs
def z (x : Int) : Bool := decide (x = 0)
/-- Which fields a kind has. -/
def hB (k : Int) : Bool := !(decide (k = 1) || decide (k = 6))
def hS (k : Int) : Bool := decide (k = 2) || decide (k = 3) || decide (k = 5) || decide (k = 9)
def hM (k : Int) : Bool := decide (k = 2)
def hA (k : Int) : Bool := decide (k = 1) || decide (k = 3) || decide (k = 4) || decide (k = 6) || decide (k = 8) || decide (k = 9)
def hW (k : Int) : Bool := decide (k = 2) || decide (k = 8)
def hT (k : Int) : Bool := decide (k = 3) || decide (k = 9)
def hD (k : Int) : Bool := decide (k = 9)
/-- Has it no more than its kind? -/
def okE (e : En) : Bool := (hB e.k || (z e.bc && z e.bn)) && (hS e.k || (z e.sp && z e.sl)) && (hM e.k || (z e.mp && z e.ml)) && (hA e.k || (z e.ap && z e.al)) && (hM e.k || e0 e.pr) && (hW e.k || z (e.ws.length : Int)) && (hT e.k || z e.parts) && (hD e.k || !e.done)
theorem eqA24 (d : Nat) (w : World) (x0 y0 : Int) (x1 y1 : Int) :
    (Op.equalIn (d + 2) 24 (.agg #[.int .u32 x0, .int .u32 x1]) (.agg #[.int .u32 y0, .int .u32 y1])).run Try.prog w = .ok (x0 == y0 && (x1 == y1)) w := by
  refine eqA_of Try.underlying24 (by kernel_rfl) ?_
  refine eqf_cons (by rfl) (by go_simp; rfl) (by go_simp; rfl) (by go_simp) ?_
  exact eqf_last (by rfl) (by go_simp; rfl) (by go_simp; rfl) (by go_simp)
theorem eqA27 (d : Nat) (w : World) (x0 y0 : Int) (x1 y1 : Int) :
    (Op.equalIn (d + 2) 27 (.agg #[.int .u64 x0, .int .u32 x1]) (.agg #[.int .u64 y0, .int .u32 y1])).run Try.prog w = .ok (x0 == y0 && (x1 == y1)) w := by
  refine eqA_of Try.underlying27 (by kernel_rfl) ?_
  refine eqf_cons (by rfl) (by go_simp; rfl) (by go_simp; rfl) (by go_simp) ?_
  exact eqf_last (by rfl) (by go_simp; rfl) (by go_simp; rfl) (by go_simp)
theorem ib (x y : Int) : (x == y) = decide (x = y) := rfl
theorem ie (l : List UInt8) : l.isEmpty = decide (l = []) := by cases l <;> rfl
attribute [local go_sem high] eqA24 eqA27

theorem stage_at {P : Program} {ops : Array Oper} {Q : Exit → Act → World → Prop} {l : List Oper} {a : Act} {w : World} (n : Nat) (R : Act → Prop) (h1 : ∀ a', R a' → wpList P ops Q (l.drop n) a' w)
    (h2 : (∀ a', R a' → wpList P ops Q (l.drop n) a' w) → wpList P ops Q l a w) : wpList P ops Q l a w := h2 h1
set_option maxRecDepth 100000 in
set_option maxHeartbeats 16000000 in
theorem spare_any (f k bc bn sp sl ap al mp ml parts : Int) (pr : ByteArray) (done : Bool) (A : Option Addr) (n c : Nat) (w : World) (hl : n ≤ 9223372036854775807) (B1 B2 B4 B8 B16 B96 B128 B256 : Bool)
    (h1 : (bits .and .i64 f 1 == 0) = B1) (h2 : (bits .and .i64 f 2 == 0) = B2) (h4 : (bits .and .i64 f 4 == 0) = B4) (h8 : (bits .and .i64 f 8 == 0) = B8) (h16 : (bits .and .i64 f 16 == 0) = B16) (h96 : (bits .and .i64 f 96 == 0) = B96) (h128 : (bits .and .i64 f 128 == 0) = B128) (h256 : (bits .and .i64 f 256 == 0) = B256) :
    Calls Try.prog 26 #[.agg #[(.int .i64 k), (.int .u32 bc), (.int .u32 bn), (.int .u64 sp), (.int .u32 sl), (.int .u64 ap), (.int .u32 al), (.int .u64 mp), (.int .u32 ml), (.string pr), (.int .u8 parts), (.bool done), (.slice A n c)], .int .i64 f] w fun r w' => r = .returned (.bool (B1 && !(z bc && z bn) || B2 && !(z sp && z sl) || B4 && !(z mp && z ml) || B8 && !(z ap && z al) || B16 && !e0 pr || B96 && !z (n : Int) || B128 && !z parts || B256 && done)) ∧ Below w.heap.size w w' := by
  have hl2 : (n : Int) ≤ 9223372036854775807 := by omega
  obtain ⟨p1, hp1⟩ : ∃ p : Bool, p = (false || (B1 && !(z bc && z bn))) := ⟨_, rfl⟩
  have HP1 := Lib.hid hp1
  obtain ⟨p2, hp2⟩ : ∃ p : Bool, p = (p1 || (B2 && !(z sp && z sl))) := ⟨_, rfl⟩
  have HP2 := Lib.hid hp2
  obtain ⟨p3, hp3⟩ : ∃ p : Bool, p = (p2 || (B4 && !(z mp && z ml))) := ⟨_, rfl⟩
  have HP3 := Lib.hid hp3
  obtain ⟨p4, hp4⟩ : ∃ p : Bool, p = (p3 || (B8 && !(z ap && z al))) := ⟨_, rfl⟩
  have HP4 := Lib.hid hp4
  obtain ⟨p5, hp5⟩ : ∃ p : Bool, p = (p4 || (B16 && !e0 pr)) := ⟨_, rfl⟩
  have HP5 := Lib.hid hp5
  obtain ⟨p6, hp6⟩ : ∃ p : Bool, p = (p5 || (B96 && !z (n : Int))) := ⟨_, rfl⟩
  have HP6 := Lib.hid hp6
  obtain ⟨p7, hp7⟩ : ∃ p : Bool, p = (p6 || (B128 && !z parts)) := ⟨_, rfl⟩
  have HP7 := Lib.hid hp7
  obtain ⟨p8, hp8⟩ : ∃ p : Bool, p = (p7 || (B256 && done)) := ⟨_, rfl⟩
  have HP8 := Lib.hid hp8
  have HALL : Hid ((B1 && !(z bc && z bn) || B2 && !(z sp && z sl) || B4 && !(z mp && z ml) || B8 && !(z ap && z al) || B16 && !e0 pr || B96 && !z (n : Int) || B128 && !z parts || B256 && done) = p8) := Lib.hid (by rw [hp8, hp7, hp6, hp5, hp4, hp3, hp2, hp1]; simp only [Bool.false_or, Bool.or_assoc])
  clear hp1 hp2 hp3 hp4 hp5 hp6 hp7 hp8
  have HB1 := Lib.hid h1
  have HB2 := Lib.hid h2
  have HB4 := Lib.hid h4
  have HB8 := Lib.hid h8
  have HB16 := Lib.hid h16
  have HB96 := Lib.hid h96
  have HB128 := Lib.hid h128
  have HB256 := Lib.hid h256
  clear h1 h2 h4 h8 h16 h96 h128 h256
  go_enter Try.func26, Try.ntmps26
  go_upto_region 0 with (fail)
  go_step
  (with_reducible refine gate_dst (N := 2) rfl ?_)
  refine box_event ?hg (N := 2) ?hd (cs := #[(.int .i64 k), (.int .u32 bc), (.int .u32 bn), (.int .u64 sp), (.int .u32 sl), (.int .u64 ap), (.int .u32 al), (.int .u64 mp), (.int .u32 ml), (.string pr), (.int .u8 parts), (.bool done), (.slice A n c)]) (t := 30) ?hr ?_
  case hd => rfl
  case hg => rfl
  case hr => kernel_rfl
  intro gb hgb w1 hbox hbb
  have HBB := Lib.hid hbb
  have HBX := Lib.hid hbox
  clear hgb hbox hbb
  go_upto_region 1 with (fail)
  go_step
  simp only [List.append_eq, List.cons_append, List.nil_append]
  refine stage_at 10 (fun a' => ∃ y0 y3 y4 y5 y6 y7 y8 y9 y10 y11 y12 y13 v : Value, v = .bool p1 ∧ a' = ⟨#[y0, .int .i64 f, .pointer (some ⟨gb, 0, none⟩), y3, y4, y5, y6, y7, y8, y9, y10, y11, y12, y13, v, undef, undef, undef, undef, undef, undef, undef, undef, undef, undef, undef, undef, undef, undef, undef, undef, undef, undef, undef, undef, undef, undef, undef, undef, undef, undef, undef, undef, undef, undef, undef, undef, undef, undef, undef, undef, undef, undef, undef, undef, undef, undef, undef, undef, undef, undef, undef, undef, undef, undef, undef, undef, undef, undef, undef, undef, undef, undef, undef, undef, undef, undef, undef, undef, undef, undef, undef, undef, undef, undef, undef, undef], []⟩) ?nx0 (fun hn => ?th0)
  case th0 =>
    simp only [List.drop_succ_cons, List.drop_zero] at hn
    have HN := Lib.hid hn
    clear hn
    obtain ⟨b1, hb1⟩ : ∃ b, B1 = b := ⟨_, rfl⟩
    have q1 := HB1.out
    rw [hb1] at q1
    have HBV := Lib.hid hb1
    clear hb1
    cases b1 with
    | false =>
      skip
      repeat (first | ((with_reducible refine gate_dst (N := 15) rfl ?_); with_reducible refine HN.out _ ⟨_, _, _, _, _, _, _, _, _, _, _, _, _, ?_, rfl⟩) | go_skip | go_guarded | go_step | go_upon)
      all_goals (clear q1; rw [HP1.out, HBV.out]; first | rfl | (simp [z, e0, ib, ie, *]; done) | (simp [z, e0, ib, ie, *]; rw [Bool.eq_iff_iff]; simp; omega))
    | true =>
      skip
      have x1 : w1.cell? ⟨gb, 1, none⟩ = some (.int .u32 bc) := (blk_cell HBX.out 1).trans rfl
      have x2 : w1.cell? ⟨gb, 2, none⟩ = some (.int .u32 bn) := (blk_cell HBX.out 2).trans rfl
      repeat (first | ((with_reducible refine gate_dst (N := 15) rfl ?_); with_reducible refine HN.out _ ⟨_, _, _, _, _, _, _, _, _, _, _, _, _, ?_, rfl⟩) | go_skip | go_guarded | go_step | go_upon)
      all_goals (clear q1; rw [HP1.out, HBV.out]; first | rfl | (simp [z, e0, ib, ie, *]; done) | (simp [z, e0, ib, ie, *]; rw [Bool.eq_iff_iff]; simp; omega))
  case nx0 =>
  rintro _ ⟨y0, y3, y4, y5, y6, y7, y8, y9, y10, y11, y12, y13, _, rfl, rfl⟩
  simp only [List.drop_succ_cons, List.drop_zero]
  refine stage_at 11 (fun a' => ∃ y0 y3 y4 y5 y6 y7 y8 y9 y10 y11 y12 y13 y14 y15 y16 y17 y18 y19 y20 y21 y22 y23 y24 v : Value, v = .bool p2 ∧ a' = ⟨#[y0, .int .i64 f, .pointer (some ⟨gb, 0, none⟩), y3, y4, y5, y6, y7, y8, y9, y10, y11, y12, y13, y14, y15, y16, y17, y18, y19, y20, y21, y22, y23, y24, v, undef, undef, undef, undef, undef, undef, undef, undef, undef, undef, undef, undef, undef, undef, undef, undef, undef, undef, undef, undef, undef, undef, undef, undef, undef, undef, undef, undef, undef, undef, undef, undef, undef, undef, undef, undef, undef, undef, undef, undef, undef, undef, undef, undef, undef, undef, undef, undef, undef, undef, undef, undef, undef, undef, undef, undef, undef, undef, undef, undef, undef], []⟩) ?nx1 (fun hn => ?th1)
  case th1 =>
    simp only [List.drop_succ_cons, List.drop_zero] at hn
    have HN := Lib.hid hn
    clear hn
    obtain ⟨b2, hb2⟩ : ∃ b, B2 = b := ⟨_, rfl⟩
    have q2 := HB2.out
    rw [hb2] at q2
    have HBV := Lib.hid hb2
    clear hb2
    obtain ⟨pp, hpp⟩ : ∃ b, p1 = b := ⟨_, rfl⟩
    rw [hpp]
    have HPV := Lib.hid hpp
    clear hpp
    cases pp with
    | true =>
      skip
      repeat (first | ((with_reducible refine gate_dst (N := 26) rfl ?_); with_reducible refine HN.out _ ⟨_, _, _, _, _, _, _, _, _, _, _, _, _, _, _, _, _, _, _, _, _, _, _, _, ?_, rfl⟩) | go_skip | go_guarded | go_step | go_upon)
      all_goals (clear q2; rw [HP2.out, HBV.out, HPV.out]; first | rfl | (simp [z, e0, ib, ie, *]; done) | (simp [z, e0, ib, ie, *]; rw [Bool.eq_iff_iff]; simp; omega))
    | false =>
      cases b2 with
      | false =>
        skip
        repeat (first | ((with_reducible refine gate_dst (N := 26) rfl ?_); with_reducible refine HN.out _ ⟨_, _, _, _, _, _, _, _, _, _, _, _, _, _, _, _, _, _, _, _, _, _, _, _, ?_, rfl⟩) | go_skip | go_guarded | go_step | go_upon)
        all_goals (clear q2; rw [HP2.out, HBV.out, HPV.out]; first | rfl | (simp [z, e0, ib, ie, *]; done) | (simp [z, e0, ib, ie, *]; rw [Bool.eq_iff_iff]; simp; omega))
      | true =>
        skip
        have x3 : w1.cell? ⟨gb, 3, none⟩ = some (.int .u64 sp) := (blk_cell HBX.out 3).trans rfl
        have x4 : w1.cell? ⟨gb, 4, none⟩ = some (.int .u32 sl) := (blk_cell HBX.out 4).trans rfl
        repeat (first | ((with_reducible refine gate_dst (N := 26) rfl ?_); with_reducible refine HN.out _ ⟨_, _, _, _, _, _, _, _, _, _, _, _, _, _, _, _, _, _, _, _, _, _, _, _, ?_, rfl⟩) | go_skip | go_guarded | go_step | go_upon)
        all_goals (clear q2; rw [HP2.out, HBV.out, HPV.out]; first | rfl | (simp [z, e0, ib, ie, *]; done) | (simp [z, e0, ib, ie, *]; rw [Bool.eq_iff_iff]; simp; omega))
  case nx1 =>
  rintro _ ⟨y0, y3, y4, y5, y6, y7, y8, y9, y10, y11, y12, y13, y14, y15, y16, y17, y18, y19, y20, y21, y22, y23, y24, _, rfl, rfl⟩
  simp only [List.drop_succ_cons, List.drop_zero]
  refine stage_at 11 (fun a' => ∃ y0 y3 y4 y5 y6 y7 y8 y9 y10 y11 y12 y13 y14 y15 y16 y17 y18 y19 y20 y21 y22 y23 y24 y25 y26 y27 y28 y29 y30 y31 y32 y33 y34 y35 v : Value, v = .bool p3 ∧ a' = ⟨#[y0, .int .i64 f, .pointer (some ⟨gb, 0, none⟩), y3, y4, y5, y6, y7, y8, y9, y10, y11, y12, y13, y14, y15, y16, y17, y18, y19, y20, y21, y22, y23, y24, y25, y26, y27, y28, y29, y30, y31, y32, y33, y34, y35, v, undef, undef, undef, undef, undef, undef, undef, undef, undef, undef, undef, undef, undef, undef, undef, undef, undef, undef, undef, undef, undef, undef, undef, undef, undef, undef, undef, undef, undef, undef, undef, undef, undef, undef, undef, undef, undef, undef, undef, undef, undef, undef, undef, undef, undef, undef, undef, undef, undef, undef], []⟩) ?nx2 (fun hn => ?th2)
  case th2 =>
    simp only [List.drop_succ_cons, List.drop_zero] at hn
    have HN := Lib.hid hn
    clear hn
    obtain ⟨b4, hb4⟩ : ∃ b, B4 = b := ⟨_, rfl⟩
    have q4 := HB4.out
    rw [hb4] at q4
    have HBV := Lib.hid hb4
    clear hb4
    obtain ⟨pp, hpp⟩ : ∃ b, p2 = b := ⟨_, rfl⟩
    rw [hpp]
    have HPV := Lib.hid hpp
    clear hpp
    cases pp with
    | true =>
      skip
      repeat (first | ((with_reducible refine gate_dst (N := 37) rfl ?_); with_reducible refine HN.out _ ⟨_, _, _, _, _, _, _, _, _, _, _, _, _, _, _, _, _, _, _, _, _, _, _, _, _, _, _, _, _, _, _, _, _, _, _, ?_, rfl⟩) | go_skip | go_guarded | go_step | go_upon)
      all_goals (clear q4; rw [HP3.out, HBV.out, HPV.out]; first | rfl | (simp [z, e0, ib, ie, *]; done) | (simp [z, e0, ib, ie, *]; rw [Bool.eq_iff_iff]; simp; omega))
    | false =>
      cases b4 with
      | false =>
        skip
        repeat (first | ((with_reducible refine gate_dst (N := 37) rfl ?_); with_reducible refine HN.out _ ⟨_, _, _, _, _, _, _, _, _, _, _, _, _, _, _, _, _, _, _, _, _, _, _, _, _, _, _, _, _, _, _, _, _, _, _, ?_, rfl⟩) | go_skip | go_guarded | go_step | go_upon)
        all_goals (clear q4; rw [HP3.out, HBV.out, HPV.out]; first | rfl | (simp [z, e0, ib, ie, *]; done) | (simp [z, e0, ib, ie, *]; rw [Bool.eq_iff_iff]; simp; omega))
      | true =>
        skip
        have x7 : w1.cell? ⟨gb, 7, none⟩ = some (.int .u64 mp) := (blk_cell HBX.out 7).trans rfl
        have x8 : w1.cell? ⟨gb, 8, none⟩ = some (.int .u32 ml) := (blk_cell HBX.out 8).trans rfl
        repeat (first | ((with_reducible refine gate_dst (N := 37) rfl ?_); with_reducible refine HN.out _ ⟨_, _, _, _, _, _, _, _, _, _, _, _, _, _, _, _, _, _, _, _, _, _, _, _, _, _, _, _, _, _, _, _, _, _, _, ?_, rfl⟩) | go_skip | go_guarded | go_step | go_upon)
        all_goals (clear q4; rw [HP3.out, HBV.out, HPV.out]; first | rfl | (simp [z, e0, ib, ie, *]; done) | (simp [z, e0, ib, ie, *]; rw [Bool.eq_iff_iff]; simp; omega))
  case nx2 =>
  rintro _ ⟨y0, y3, y4, y5, y6, y7, y8, y9, y10, y11, y12, y13, y14, y15, y16, y17, y18, y19, y20, y21, y22, y23, y24, y25, y26, y27, y28, y29, y30, y31, y32, y33, y34, y35, _, rfl, rfl⟩
  simp only [List.drop_succ_cons, List.drop_zero]
  refine stage_at 11 (fun a' => ∃ y0 y3 y4 y5 y6 y7 y8 y9 y10 y11 y12 y13 y14 y15 y16 y17 y18 y19 y20 y21 y22 y23 y24 y25 y26 y27 y28 y29 y30 y31 y32 y33 y34 y35 y36 y37 y38 y39 y40 y41 y42 y43 y44 y45 y46 v : Value, v = .bool p4 ∧ a' = ⟨#[y0, .int .i64 f, .pointer (some ⟨gb, 0, none⟩), y3, y4, y5, y6, y7, y8, y9, y10, y11, y12, y13, y14, y15, y16, y17, y18, y19, y20, y21, y22, y23, y24, y25, y26, y27, y28, y29, y30, y31, y32, y33, y34, y35, y36, y37, y38, y39, y40, y41, y42, y43, y44, y45, y46, v, undef, undef, undef, undef, undef, undef, undef, undef, undef, undef, undef, undef, undef, undef, undef, undef, undef, undef, undef, undef, undef, undef, undef, undef, undef, undef, undef, undef, undef, undef, undef, undef, undef, undef, undef, undef, undef, undef, undef], []⟩) ?nx3 (fun hn => ?th3)
  case th3 =>
    simp only [List.drop_succ_cons, List.drop_zero] at hn
    have HN := Lib.hid hn
    clear hn
    obtain ⟨b8, hb8⟩ : ∃ b, B8 = b := ⟨_, rfl⟩
    have q8 := HB8.out
    rw [hb8] at q8
    have HBV := Lib.hid hb8
    clear hb8
    obtain ⟨pp, hpp⟩ : ∃ b, p3 = b := ⟨_, rfl⟩
    rw [hpp]
    have HPV := Lib.hid hpp
    clear hpp
    cases pp with
    | true =>
      skip
      repeat (first | ((with_reducible refine gate_dst (N := 48) rfl ?_); with_reducible refine HN.out _ ⟨_, _, _, _, _, _, _, _, _, _, _, _, _, _, _, _, _, _, _, _, _, _, _, _, _, _, _, _, _, _, _, _, _, _, _, _, _, _, _, _, _, _, _, _, _, _, ?_, rfl⟩) | go_skip | go_guarded | go_step | go_upon)
      all_goals (clear q8; rw [HP4.out, HBV.out, HPV.out]; first | rfl | (simp [z, e0, ib, ie, *]; done) | (simp [z, e0, ib, ie, *]; rw [Bool.eq_iff_iff]; simp; omega))
    | false =>
      cases b8 with
      | false =>
        skip
        repeat (first | ((with_reducible refine gate_dst (N := 48) rfl ?_); with_reducible refine HN.out _ ⟨_, _, _, _, _, _, _, _, _, _, _, _, _, _, _, _, _, _, _, _, _, _, _, _, _, _, _, _, _, _, _, _, _, _, _, _, _, _, _, _, _, _, _, _, _, _, ?_, rfl⟩) | go_skip | go_guarded | go_step | go_upon)
        all_goals (clear q8; rw [HP4.out, HBV.out, HPV.out]; first | rfl | (simp [z, e0, ib, ie, *]; done) | (simp [z, e0, ib, ie, *]; rw [Bool.eq_iff_iff]; simp; omega))
      | true =>
        skip
        have x5 : w1.cell? ⟨gb, 5, none⟩ = some (.int .u64 ap) := (blk_cell HBX.out 5).trans rfl
        have x6 : w1.cell? ⟨gb, 6, none⟩ = some (.int .u32 al) := (blk_cell HBX.out 6).trans rfl
        repeat (first | ((with_reducible refine gate_dst (N := 48) rfl ?_); with_reducible refine HN.out _ ⟨_, _, _, _, _, _, _, _, _, _, _, _, _, _, _, _, _, _, _, _, _, _, _, _, _, _, _, _, _, _, _, _, _, _, _, _, _, _, _, _, _, _, _, _, _, _, ?_, rfl⟩) | go_skip | go_guarded | go_step | go_upon)
        all_goals (clear q8; rw [HP4.out, HBV.out, HPV.out]; first | rfl | (simp [z, e0, ib, ie, *]; done) | (simp [z, e0, ib, ie, *]; rw [Bool.eq_iff_iff]; simp; omega))
  case nx3 =>
  rintro _ ⟨y0, y3, y4, y5, y6, y7, y8, y9, y10, y11, y12, y13, y14, y15, y16, y17, y18, y19, y20, y21, y22, y23, y24, y25, y26, y27, y28, y29, y30, y31, y32, y33, y34, y35, y36, y37, y38, y39, y40, y41, y42, y43, y44, y45, y46, _, rfl, rfl⟩
  simp only [List.drop_succ_cons, List.drop_zero]
  refine stage_at 10 (fun a' => ∃ y0 y3 y4 y5 y6 y7 y8 y9 y10 y11 y12 y13 y14 y15 y16 y17 y18 y19 y20 y21 y22 y23 y24 y25 y26 y27 y28 y29 y30 y31 y32 y33 y34 y35 y36 y37 y38 y39 y40 y41 y42 y43 y44 y45 y46 y47 y48 y49 y50 y51 y52 y53 y54 y55 y56 v : Value, v = .bool p5 ∧ a' = ⟨#[y0, .int .i64 f, .pointer (some ⟨gb, 0, none⟩), y3, y4, y5, y6, y7, y8, y9, y10, y11, y12, y13, y14, y15, y16, y17, y18, y19, y20, y21, y22, y23, y24, y25, y26, y27, y28, y29, y30, y31, y32, y33, y34, y35, y36, y37, y38, y39, y40, y41, y42, y43, y44, y45, y46, y47, y48, y49, y50, y51, y52, y53, y54, y55, y56, v, undef, undef, undef, undef, undef, undef, undef, undef, undef, undef, undef, undef, undef, undef, undef, undef, undef, undef, undef, undef, undef, undef, undef, undef, undef, undef, undef, undef, undef], []⟩) ?nx4 (fun hn => ?th4)
  case th4 =>
    simp only [List.drop_succ_cons, List.drop_zero] at hn
    have HN := Lib.hid hn
    clear hn
    obtain ⟨b16, hb16⟩ : ∃ b, B16 = b := ⟨_, rfl⟩
    have q16 := HB16.out
    rw [hb16] at q16
    have HBV := Lib.hid hb16
    clear hb16
    obtain ⟨pp, hpp⟩ : ∃ b, p4 = b := ⟨_, rfl⟩
    rw [hpp]
    have HPV := Lib.hid hpp
    clear hpp
    cases pp with
    | true =>
      skip
      repeat (first | ((with_reducible refine gate_dst (N := 58) rfl ?_); with_reducible refine HN.out _ ⟨_, _, _, _, _, _, _, _, _, _, _, _, _, _, _, _, _, _, _, _, _, _, _, _, _, _, _, _, _, _, _, _, _, _, _, _, _, _, _, _, _, _, _, _, _, _, _, _, _, _, _, _, _, _, _, _, ?_, rfl⟩) | go_skip | go_guarded | go_step | go_upon)
      all_goals (clear q16; rw [HP5.out, HBV.out, HPV.out]; first | rfl | (simp [z, e0, ib, ie, *]; done) | (simp [z, e0, ib, ie, *]; rw [Bool.eq_iff_iff]; simp; omega))
    | false =>
      cases b16 with
      | false =>
        skip
        repeat (first | ((with_reducible refine gate_dst (N := 58) rfl ?_); with_reducible refine HN.out _ ⟨_, _, _, _, _, _, _, _, _, _, _, _, _, _, _, _, _, _, _, _, _, _, _, _, _, _, _, _, _, _, _, _, _, _, _, _, _, _, _, _, _, _, _, _, _, _, _, _, _, _, _, _, _, _, _, _, ?_, rfl⟩) | go_skip | go_guarded | go_step | go_upon)
        all_goals (clear q16; rw [HP5.out, HBV.out, HPV.out]; first | rfl | (simp [z, e0, ib, ie, *]; done) | (simp [z, e0, ib, ie, *]; rw [Bool.eq_iff_iff]; simp; omega))
      | true =>
        skip
        have x9 : w1.cell? ⟨gb, 9, none⟩ = some (.string pr) := (blk_cell HBX.out 9).trans rfl
        repeat (first | ((with_reducible refine gate_dst (N := 58) rfl ?_); with_reducible refine HN.out _ ⟨_, _, _, _, _, _, _, _, _, _, _, _, _, _, _, _, _, _, _, _, _, _, _, _, _, _, _, _, _, _, _, _, _, _, _, _, _, _, _, _, _, _, _, _, _, _, _, _, _, _, _, _, _, _, _, _, ?_, rfl⟩) | go_skip | go_guarded | go_step | go_upon)
        all_goals (clear q16; rw [HP5.out, HBV.out, HPV.out]; first | rfl | (simp [z, e0, ib, ie, *]; done) | (simp [z, e0, ib, ie, *]; rw [Bool.eq_iff_iff]; simp; omega))
  case nx4 =>
  rintro _ ⟨y0, y3, y4, y5, y6, y7, y8, y9, y10, y11, y12, y13, y14, y15, y16, y17, y18, y19, y20, y21, y22, y23, y24, y25, y26, y27, y28, y29, y30, y31, y32, y33, y34, y35, y36, y37, y38, y39, y40, y41, y42, y43, y44, y45, y46, y47, y48, y49, y50, y51, y52, y53, y54, y55, y56, _, rfl, rfl⟩
  simp only [List.drop_succ_cons, List.drop_zero]
  refine stage_at 11 (fun a' => ∃ y0 y3 y4 y5 y6 y7 y8 y9 y10 y11 y12 y13 y14 y15 y16 y17 y18 y19 y20 y21 y22 y23 y24 y25 y26 y27 y28 y29 y30 y31 y32 y33 y34 y35 y36 y37 y38 y39 y40 y41 y42 y43 y44 y45 y46 y47 y48 y49 y50 y51 y52 y53 y54 y55 y56 y57 y58 y59 y60 y61 y62 y63 y64 y65 y66 y67 v : Value, v = .bool p6 ∧ a' = ⟨#[y0, .int .i64 f, .pointer (some ⟨gb, 0, none⟩), y3, y4, y5, y6, y7, y8, y9, y10, y11, y12, y13, y14, y15, y16, y17, y18, y19, y20, y21, y22, y23, y24, y25, y26, y27, y28, y29, y30, y31, y32, y33, y34, y35, y36, y37, y38, y39, y40, y41, y42, y43, y44, y45, y46, y47, y48, y49, y50, y51, y52, y53, y54, y55, y56, y57, y58, y59, y60, y61, y62, y63, y64, y65, y66, y67, v, undef, undef, undef, undef, undef, undef, undef, undef, undef, undef, undef, undef, undef, undef, undef, undef, undef, undef], []⟩) ?nx5 (fun hn => ?th5)
  case th5 =>
    simp only [List.drop_succ_cons, List.drop_zero] at hn
    have HN := Lib.hid hn
    clear hn
    obtain ⟨b96, hb96⟩ : ∃ b, B96 = b := ⟨_, rfl⟩
    have q96 := HB96.out
    rw [hb96] at q96
    have HBV := Lib.hid hb96
    clear hb96
    obtain ⟨pp, hpp⟩ : ∃ b, p5 = b := ⟨_, rfl⟩
    rw [hpp]
    have HPV := Lib.hid hpp
    clear hpp
    cases pp with
    | true =>
      skip
      repeat (first | ((with_reducible refine gate_dst (N := 69) rfl ?_); with_reducible refine HN.out _ ⟨_, _, _, _, _, _, _, _, _, _, _, _, _, _, _, _, _, _, _, _, _, _, _, _, _, _, _, _, _, _, _, _, _, _, _, _, _, _, _, _, _, _, _, _, _, _, _, _, _, _, _, _, _, _, _, _, _, _, _, _, _, _, _, _, _, _, _, ?_, rfl⟩) | go_skip | go_guarded | go_step | go_upon)
      all_goals (clear q96; rw [HP6.out, HBV.out, HPV.out]; first | rfl | (simp [z, e0, ib, ie, *]; done) | (simp [z, e0, ib, ie, *]; rw [Bool.eq_iff_iff]; simp; omega))
    | false =>
      cases b96 with
      | false =>
        skip
        repeat (first | ((with_reducible refine gate_dst (N := 69) rfl ?_); with_reducible refine HN.out _ ⟨_, _, _, _, _, _, _, _, _, _, _, _, _, _, _, _, _, _, _, _, _, _, _, _, _, _, _, _, _, _, _, _, _, _, _, _, _, _, _, _, _, _, _, _, _, _, _, _, _, _, _, _, _, _, _, _, _, _, _, _, _, _, _, _, _, _, _, ?_, rfl⟩) | go_skip | go_guarded | go_step | go_upon)
        all_goals (clear q96; rw [HP6.out, HBV.out, HPV.out]; first | rfl | (simp [z, e0, ib, ie, *]; done) | (simp [z, e0, ib, ie, *]; rw [Bool.eq_iff_iff]; simp; omega))
      | true =>
        skip
        have x12 : w1.cell? ⟨gb, 12, none⟩ = some (.slice A n c) := (blk_cell HBX.out 12).trans rfl
        repeat (first | ((with_reducible refine gate_dst (N := 69) rfl ?_); with_reducible refine HN.out _ ⟨_, _, _, _, _, _, _, _, _, _, _, _, _, _, _, _, _, _, _, _, _, _, _, _, _, _, _, _, _, _, _, _, _, _, _, _, _, _, _, _, _, _, _, _, _, _, _, _, _, _, _, _, _, _, _, _, _, _, _, _, _, _, _, _, _, _, _, ?_, rfl⟩) | go_skip | go_guarded | go_step | go_upon)
        all_goals (clear q96; rw [HP6.out, HBV.out, HPV.out]; first | rfl | (simp [z, e0, ib, ie, *]; done) | (simp [z, e0, ib, ie, *]; rw [Bool.eq_iff_iff]; simp; omega))
  case nx5 =>
  rintro _ ⟨y0, y3, y4, y5, y6, y7, y8, y9, y10, y11, y12, y13, y14, y15, y16, y17, y18, y19, y20, y21, y22, y23, y24, y25, y26, y27, y28, y29, y30, y31, y32, y33, y34, y35, y36, y37, y38, y39, y40, y41, y42, y43, y44, y45, y46, y47, y48, y49, y50, y51, y52, y53, y54, y55, y56, y57, y58, y59, y60, y61, y62, y63, y64, y65, y66, y67, _, rfl, rfl⟩
  simp only [List.drop_succ_cons, List.drop_zero]
  refine stage_at 10 (fun a' => ∃ y0 y3 y4 y5 y6 y7 y8 y9 y10 y11 y12 y13 y14 y15 y16 y17 y18 y19 y20 y21 y22 y23 y24 y25 y26 y27 y28 y29 y30 y31 y32 y33 y34 y35 y36 y37 y38 y39 y40 y41 y42 y43 y44 y45 y46 y47 y48 y49 y50 y51 y52 y53 y54 y55 y56 y57 y58 y59 y60 y61 y62 y63 y64 y65 y66 y67 y68 y69 y70 y71 y72 y73 y74 y75 y76 y77 v : Value, v = .bool p7 ∧ a' = ⟨#[y0, .int .i64 f, .pointer (some ⟨gb, 0, none⟩), y3, y4, y5, y6, y7, y8, y9, y10, y11, y12, y13, y14, y15, y16, y17, y18, y19, y20, y21, y22, y23, y24, y25, y26, y27, y28, y29, y30, y31, y32, y33, y34, y35, y36, y37, y38, y39, y40, y41, y42, y43, y44, y45, y46, y47, y48, y49, y50, y51, y52, y53, y54, y55, y56, y57, y58, y59, y60, y61, y62, y63, y64, y65, y66, y67, y68, y69, y70, y71, y72, y73, y74, y75, y76, y77, v, undef, undef, undef, undef, undef, undef, undef, undef], []⟩) ?nx6 (fun hn => ?th6)
  case th6 =>
    simp only [List.drop_succ_cons, List.drop_zero] at hn
    have HN := Lib.hid hn
    clear hn
    obtain ⟨b128, hb128⟩ : ∃ b, B128 = b := ⟨_, rfl⟩
    have q128 := HB128.out
    rw [hb128] at q128
    have HBV := Lib.hid hb128
    clear hb128
    obtain ⟨pp, hpp⟩ : ∃ b, p6 = b := ⟨_, rfl⟩
    rw [hpp]
    have HPV := Lib.hid hpp
    clear hpp
    cases pp with
    | true =>
      skip
      repeat (first | ((with_reducible refine gate_dst (N := 79) rfl ?_); with_reducible refine HN.out _ ⟨_, _, _, _, _, _, _, _, _, _, _, _, _, _, _, _, _, _, _, _, _, _, _, _, _, _, _, _, _, _, _, _, _, _, _, _, _, _, _, _, _, _, _, _, _, _, _, _, _, _, _, _, _, _, _, _, _, _, _, _, _, _, _, _, _, _, _, _, _, _, _, _, _, _, _, _, _, ?_, rfl⟩) | go_skip | go_guarded | go_step | go_upon)
      all_goals (clear q128; rw [HP7.out, HBV.out, HPV.out]; first | rfl | (simp [z, e0, ib, ie, *]; done) | (simp [z, e0, ib, ie, *]; rw [Bool.eq_iff_iff]; simp; omega))
    | false =>
      cases b128 with
      | false =>
        skip
        repeat (first | ((with_reducible refine gate_dst (N := 79) rfl ?_); with_reducible refine HN.out _ ⟨_, _, _, _, _, _, _, _, _, _, _, _, _, _, _, _, _, _, _, _, _, _, _, _, _, _, _, _, _, _, _, _, _, _, _, _, _, _, _, _, _, _, _, _, _, _, _, _, _, _, _, _, _, _, _, _, _, _, _, _, _, _, _, _, _, _, _, _, _, _, _, _, _, _, _, _, _, ?_, rfl⟩) | go_skip | go_guarded | go_step | go_upon)
        all_goals (clear q128; rw [HP7.out, HBV.out, HPV.out]; first | rfl | (simp [z, e0, ib, ie, *]; done) | (simp [z, e0, ib, ie, *]; rw [Bool.eq_iff_iff]; simp; omega))
      | true =>
        skip
        have x10 : w1.cell? ⟨gb, 10, none⟩ = some (.int .u8 parts) := (blk_cell HBX.out 10).trans rfl
        repeat (first | ((with_reducible refine gate_dst (N := 79) rfl ?_); with_reducible refine HN.out _ ⟨_, _, _, _, _, _, _, _, _, _, _, _, _, _, _, _, _, _, _, _, _, _, _, _, _, _, _, _, _, _, _, _, _, _, _, _, _, _, _, _, _, _, _, _, _, _, _, _, _, _, _, _, _, _, _, _, _, _, _, _, _, _, _, _, _, _, _, _, _, _, _, _, _, _, _, _, _, ?_, rfl⟩) | go_skip | go_guarded | go_step | go_upon)
        all_goals (clear q128; rw [HP7.out, HBV.out, HPV.out]; first | rfl | (simp [z, e0, ib, ie, *]; done) | (simp [z, e0, ib, ie, *]; rw [Bool.eq_iff_iff]; simp; omega))
  case nx6 =>
  rintro _ ⟨y0, y3, y4, y5, y6, y7, y8, y9, y10, y11, y12, y13, y14, y15, y16, y17, y18, y19, y20, y21, y22, y23, y24, y25, y26, y27, y28, y29, y30, y31, y32, y33, y34, y35, y36, y37, y38, y39, y40, y41, y42, y43, y44, y45, y46, y47, y48, y49, y50, y51, y52, y53, y54, y55, y56, y57, y58, y59, y60, y61, y62, y63, y64, y65, y66, y67, y68, y69, y70, y71, y72, y73, y74, y75, y76, y77, _, rfl, rfl⟩
  simp only [List.drop_succ_cons, List.drop_zero]
  obtain ⟨b256, hb256⟩ : ∃ b, B256 = b := ⟨_, rfl⟩
  have q256 := HB256.out
  rw [hb256] at q256
  have HBV := Lib.hid hb256
  clear hb256
  obtain ⟨pp, hpp⟩ : ∃ b, p7 = b := ⟨_, rfl⟩
  rw [hpp]
  have HPV := Lib.hid hpp
  clear hpp
  cases pp with
  | true =>
    skip
    go_wp2
    all_goals go_ret
    all_goals refine ⟨?_, HBB.out⟩
    all_goals (clear q256; rw [HALL.out]; rw [HP8.out, HBV.out, HPV.out]; first | rfl | (simp [z, e0, ib, ie, *]; done) | (simp [z, e0, ib, ie, *]; rw [Bool.eq_iff_iff]; simp; omega))
  | false =>
    cases b256 with
    | false =>
      skip
      go_wp2
      all_goals go_ret
      all_goals refine ⟨?_, HBB.out⟩
      all_goals (clear q256; rw [HALL.out]; rw [HP8.out, HBV.out, HPV.out]; first | rfl | (simp [z, e0, ib, ie, *]; done) | (simp [z, e0, ib, ie, *]; rw [Bool.eq_iff_iff]; simp; omega))
    | true =>
      skip
      have x11 : w1.cell? ⟨gb, 11, none⟩ = some (.bool done) := (blk_cell HBX.out 11).trans rfl
      go_wp2
      all_goals go_ret
      all_goals refine ⟨?_, HBB.out⟩
      all_goals (clear q256; rw [HALL.out]; rw [HP8.out, HBV.out, HPV.out]; first | rfl | (simp [z, e0, ib, ie, *]; done) | (simp [z, e0, ib, ie, *]; rw [Bool.eq_iff_iff]; simp; omega))
theorem spare_calls (e : En) (A : Option Addr) (c : Nat) (w : World) (hk : 1 ≤ e.k ∧ e.k ≤ 9) (hl : e.ws.length ≤ 9223372036854775807) :
    Calls Try.prog 26 #[.agg #[.int .i64 e.k, .int .u32 e.bc, .int .u32 e.bn, .int .u64 e.sp, .int .u32 e.sl, .int .u64 e.ap, .int .u32 e.al, .int .u64 e.mp, .int .u32 e.ml, .string e.pr, .int .u8 e.parts, .bool e.done, .slice A e.ws.length c], .int .i64 (fieldsR e.k)] w fun r w' => r = .returned (.bool (!okE e)) ∧ Below w.heap.size w w' := by
  obtain ⟨k, bc, bn, sp, sl, ap, al, mp, ml, pr, parts, done, ws⟩ := e
  dsimp only at *
  refine (spare_any (fieldsR k) k bc bn sp sl ap al mp ml parts pr done A ws.length c w hl (!hB k) (!hS k) (!hM k) (!hA k) (!hM k) (!hW k) (!hT k) (!hD k) ?_ ?_ ?_ ?_ ?_ ?_ ?_ ?_).mono (fun r w' h => ⟨?lst, h.2⟩)
  case lst =>
    rw [h.1, okE]
    congr 2
    cases hB k <;> cases hS k <;> cases hM k <;> cases hA k <;> cases hW k <;> cases hT k <;> cases hD k <;> simp
  all_goals (rcases (show k = 1 ∨ k = 2 ∨ k = 3 ∨ k = 4 ∨ k = 5 ∨ k = 6 ∨ k = 7 ∨ k = 8 ∨ k = 9 by omega) with rfl | rfl | rfl | rfl | rfl | rfl | rfl | rfl | rfl <;> kernel_rfl)

end Go.Proofs.Ytblabgdkbcphkaa

/- The document's Right is entry's. Conditions: those that each theorem names. -/
import Derived.Test.YtblabgdkbcphkaaEn
import Derived.Deep.RegionHeld3
import Derived.Deep.QuietTactic
import Derived.BigQuiet
set_option linter.unusedVariables false
set_option linter.unusedSimpArgs false
set_option linter.constructorNameAsVariable false
namespace Go.Proofs.Ytblabgdkbcphkaa
open Go.RowKit Go.Deep Go.Proofs.YtblabgdkbcphkaaW.PrintWords Go.Proofs.Ytblabgdkbcphkaa.PEs Go.Proofs.Ytblabgdkbcphkaa.PRd
attribute [local go_sem high] eqA24 eqA27
theorem Below_drewN_ {w W : World} (h : Below w.heap.size w W) (n : Nat) : Below w.heap.size w (W.drewN n) := pw_below_drewN h n
theorem rstampB_calls (p l : Int) (b : Bool) (h : rts p l = b) (w : World) : Calls Try.prog 46 #[.agg #[.int .u64 p, .int .u32 l]] w fun e w' => e = .returned (.bool b) ∧ Below w.heap.size w w' :=
  (rstamp_calls p l w).mono fun _ _ ⟨a, c⟩ => ⟨by rw [a, h], c⟩
theorem rkeyB_calls (s : ByteArray) (b : Bool) (h : keyB s = b) (w : World) : Calls Try.prog 47 #[.string s] w fun e w' => e = .returned (.bool b) ∧ Below w.heap.size w w' :=
  (rkey_calls s w).mono fun _ _ ⟨a, c⟩ => ⟨by rw [a, h], c.below⟩
theorem rlatchB_calls (ws : List S54) (A : Option Addr) (c : Nat) (w : World) (b : Bool) (hb : latchR ws = b) (hC : Kd.C k54 w A ws.length ws) (hc : ws.length ≤ c) (hz : ws.length ≤ 9223372036854775807) :
    Calls Try.prog 48 #[.slice A ws.length c] w fun e w' => e = .returned (.bool b) ∧ Below w.heap.size w w' :=
  (rlatch_calls ws A c w hC hc hz).mono fun _ _ ⟨a, c⟩ => ⟨by rw [a, hb], c⟩
set_option maxRecDepth 100000 in
set_option maxHeartbeats 16000000 in
theorem rright_calls (e : En) (A : Option Addr) (c : Nat) (w : World) (hin : EnIn w e A c) (hl : e.ws.length ≤ 9223372036854775807) :
    Calls Try.prog 20 #[.agg #[.int .i64 e.k, .int .u32 e.bc, .int .u32 e.bn, .int .u64 e.sp, .int .u32 e.sl, .int .u64 e.ap, .int .u32 e.al, .int .u64 e.mp, .int .u32 e.ml, .string e.pr, .int .u8 e.parts, .bool e.done, .slice A e.ws.length c]] w fun r w' => r = .returned (.bool (rightE e)) ∧ Below w.heap.size w w' := by
  have HC := Lib.hid hin
  have HBARE := Lib.hid (fun W (hk : 1 ≤ e.k ∧ e.k ≤ 9) (hb : Below w.heap.size w W) => bare_calls e A c W hk (hin.below hb))
  have HSAME := Lib.hid (fun W A2 c2 (hb : Below w.heap.size w W) (h2 : EnIn W (bareE e) A2 c2) => same_calls e (bareE e) A A2 c c2 W hl (hin.below hb) h2)
  have HOKE := Lib.hid (bare_iff e)
  rw [HOKE.out] at HSAME
  clear hin HOKE
  obtain ⟨k, bc, bn, sp, sl, ap, al, mp, ml, pr, parts, done, ws⟩ := e
  dsimp only at *
  have hl2 : (ws.length : Int) ≤ 9223372036854775807 := by omega
  go_enter Try.func20, Try.ntmps20
  go_upto_region 0 with (fail)
  go_step
  (with_reducible refine gate_dst (N := 1) rfl ?_)
  refine box_event ?hg (N := 1) ?hd (cs := #[(.int .i64 k), (.int .u32 bc), (.int .u32 bn), (.int .u64 sp), (.int .u32 sl), (.int .u64 ap), (.int .u32 al), (.int .u64 mp), (.int .u32 ml), (.string pr), (.int .u8 parts), (.bool done), (.slice A ws.length c)]) (t := 30) ?hr ?_
  case hd => rfl
  case hg => rfl
  case hr => kernel_rfl
  intro gb hgb w1 hbox hbb
  have HB1 := Lib.hid hbb
  have HX1 := Lib.hid hbox
  clear hgb hbox hbb
  have x0 : w1.cell? ⟨gb, 0, none⟩ = some (.int .i64 k) := (blk_cell HX1.out 0).trans rfl
  by_cases h1 : k < 1
  case pos =>
    have HR : Hid (rightE ⟨k, bc, bn, sp, sl, ap, al, mp, ml, pr, parts, done, ws⟩ = false) := Lib.hid (by unfold rightE; rw [decide_eq_false (show ¬ 1 ≤ k by omega)]; rfl)
    have d1 : decide (k < 1) = true := decide_eq_true h1
    go_wp2_with fail
    go_quiet (fail)
    go_wp2_with fail
    go_ret
    exact ⟨by rw [HR.out]; rfl, Below_drewN_ HB1.out _⟩
  have d1 : decide (k < 1) = false := decide_eq_false h1
  by_cases h9 : 9 < k
  case pos =>
    have HR : Hid (rightE ⟨k, bc, bn, sp, sl, ap, al, mp, ml, pr, parts, done, ws⟩ = false) := Lib.hid (by unfold rightE; rw [decide_eq_false (show ¬ k ≤ 9 by omega)]; cases decide (1 ≤ k) <;> rfl)
    have d2 : decide (9 < k) = true := decide_eq_true h9
    go_wp2_with fail
    go_quiet (fail)
    go_wp2_with fail
    go_ret
    exact ⟨by rw [HR.out]; rfl, Below_drewN_ HB1.out _⟩
  have d2 : decide (9 < k) = false := decide_eq_false h9
  have hk : 1 ≤ k ∧ k ≤ 9 := by omega
  have HK9 := Lib.hid hk
  have HRR : Hid (rightE ⟨k, bc, bn, sp, sl, ap, al, mp, ml, pr, parts, done, ws⟩ = (okE ⟨k, bc, bn, sp, sl, ap, al, mp, ml, pr, parts, done, ws⟩ && rts sp sl && rts ap al && rts mp ml && tailE ⟨k, bc, bn, sp, sl, ap, al, mp, ml, pr, parts, done, ws⟩)) := Lib.hid (by
    unfold rightE
    rw [decide_eq_true hk.1, decide_eq_true hk.2]
    rfl)
  have HBR2 : Hid (∃ be : En, (∀ W, Below w1.heap.size w1 W → Calls Try.prog 45 #[.agg #[(.int .i64 k), (.int .u32 bc), (.int .u32 bn), (.int .u64 sp), (.int .u32 sl), (.int .u64 ap), (.int .u32 al), (.int .u64 mp), (.int .u32 ml), (.string pr), (.int .u8 parts), (.bool done), (.slice A ws.length c)]] W fun r w' => ∃ A2 c2, r = .returned (.agg #[.int .i64 be.k, .int .u32 be.bc, .int .u32 be.bn, .int .u64 be.sp, .int .u32 be.sl, .int .u64 be.ap, .int .u32 be.al, .int .u64 be.mp, .int .u32 be.ml, .string be.pr, .int .u8 be.parts, .bool be.done, .slice A2 be.ws.length c2]) ∧ EnIn w' be A2 c2 ∧ Below w1.heap.size w1 w') ∧
      (∀ W A2 c2, Below w1.heap.size w1 W → EnIn W be A2 c2 → Calls Try.prog 12 #[.agg #[(.int .i64 k), (.int .u32 bc), (.int .u32 bn), (.int .u64 sp), (.int .u32 sl), (.int .u64 ap), (.int .u32 al), (.int .u64 mp), (.int .u32 ml), (.string pr), (.int .u8 parts), (.bool done), (.slice A ws.length c)], .agg #[.int .i64 be.k, .int .u32 be.bc, .int .u32 be.bn, .int .u64 be.sp, .int .u32 be.sl, .int .u64 be.ap, .int .u32 be.al, .int .u64 be.mp, .int .u32 be.ml, .string be.pr, .int .u8 be.parts, .bool be.done, .slice A2 be.ws.length c2]] W fun r w' => r = .returned (.bool (okE ⟨k, bc, bn, sp, sl, ap, al, mp, ml, pr, parts, done, ws⟩)) ∧ Below w1.heap.size w1 w')) := Lib.hid ⟨bareE ⟨k, bc, bn, sp, sl, ap, al, mp, ml, pr, parts, done, ws⟩, fun W hb => (HBARE.out W hk (HB1.out.trans (hb.mono HB1.out.size))).mono (fun r w' ⟨A2, c2, h1, h2, h3⟩ => ⟨A2, c2, h1, h2, hb.trans (h3.mono hb.size)⟩),
        fun W A2 c2 hb h2 => (HSAME.out W A2 c2 (HB1.out.trans (hb.mono HB1.out.size)) h2).mono (fun r w' ⟨h1, h3⟩ => ⟨h1, hb.trans (h3.mono hb.size)⟩)⟩
  obtain ⟨be, hbr, hsm⟩ := HBR2.out
  have HBR := Lib.hid hbr
  have HSM := Lib.hid hsm
  clear hbr hsm HBR2 HBARE HSAME hk h1 h9 x0
  have HKS : Hid (∀ W, Below w1.heap.size w1 W → Below w1.heap.size w1 W ∧ W.cell? ⟨gb, 0, none⟩ = some (.int .i64 k) ∧ W.cell? ⟨gb, 1, none⟩ = some (.int .u32 bc) ∧ W.cell? ⟨gb, 2, none⟩ = some (.int .u32 bn) ∧ W.cell? ⟨gb, 3, none⟩ = some (.int .u64 sp) ∧ W.cell? ⟨gb, 4, none⟩ = some (.int .u32 sl) ∧ W.cell? ⟨gb, 5, none⟩ = some (.int .u64 ap) ∧ W.cell? ⟨gb, 6, none⟩ = some (.int .u32 al) ∧ W.cell? ⟨gb, 7, none⟩ = some (.int .u64 mp) ∧ W.cell? ⟨gb, 8, none⟩ = some (.int .u32 ml) ∧ W.cell? ⟨gb, 9, none⟩ = some (.string pr) ∧ W.cell? ⟨gb, 10, none⟩ = some (.int .u8 parts) ∧ W.cell? ⟨gb, 11, none⟩ = some (.bool done) ∧ W.cell? ⟨gb, 12, none⟩ = some (.slice A ws.length c)) := Lib.hid (fun W hb => by
    have h := (hb.block _ (lt_at2 HX1.out)).trans HX1.out
    refine ⟨hb, (blk_cell h 0).trans rfl, (blk_cell h 1).trans rfl, (blk_cell h 2).trans rfl, (blk_cell h 3).trans rfl, (blk_cell h 4).trans rfl, (blk_cell h 5).trans rfl, (blk_cell h 6).trans rfl, (blk_cell h 7).trans rfl, (blk_cell h 8).trans rfl, (blk_cell h 9).trans rfl, (blk_cell h 10).trans rfl, (blk_cell h 11).trans rfl, (blk_cell h 12).trans rfl⟩)
  have y0 : w1.cell? ⟨gb, 0, none⟩ = some (.int .i64 k) := (blk_cell HX1.out 0).trans rfl
  have y1 : w1.cell? ⟨gb, 1, none⟩ = some (.int .u32 bc) := (blk_cell HX1.out 1).trans rfl
  have y2 : w1.cell? ⟨gb, 2, none⟩ = some (.int .u32 bn) := (blk_cell HX1.out 2).trans rfl
  have y3 : w1.cell? ⟨gb, 3, none⟩ = some (.int .u64 sp) := (blk_cell HX1.out 3).trans rfl
  have y4 : w1.cell? ⟨gb, 4, none⟩ = some (.int .u32 sl) := (blk_cell HX1.out 4).trans rfl
  have y5 : w1.cell? ⟨gb, 5, none⟩ = some (.int .u64 ap) := (blk_cell HX1.out 5).trans rfl
  have y6 : w1.cell? ⟨gb, 6, none⟩ = some (.int .u32 al) := (blk_cell HX1.out 6).trans rfl
  have y7 : w1.cell? ⟨gb, 7, none⟩ = some (.int .u64 mp) := (blk_cell HX1.out 7).trans rfl
  have y8 : w1.cell? ⟨gb, 8, none⟩ = some (.int .u32 ml) := (blk_cell HX1.out 8).trans rfl
  have y9 : w1.cell? ⟨gb, 9, none⟩ = some (.string pr) := (blk_cell HX1.out 9).trans rfl
  have y10 : w1.cell? ⟨gb, 10, none⟩ = some (.int .u8 parts) := (blk_cell HX1.out 10).trans rfl
  have y11 : w1.cell? ⟨gb, 11, none⟩ = some (.bool done) := (blk_cell HX1.out 11).trans rfl
  have y12 : w1.cell? ⟨gb, 12, none⟩ = some (.slice A ws.length c) := (blk_cell HX1.out 12).trans rfl
  obtain ⟨ok, hok⟩ : ∃ b, okE ⟨k, bc, bn, sp, sl, ap, al, mp, ml, pr, parts, done, ws⟩ = b := ⟨_, rfl⟩
  rw [hok] at HSM
  have HOK := Lib.hid hok
  clear hok
  cases ok with
  | false =>
    have HR : Hid (rightE ⟨k, bc, bn, sp, sl, ap, al, mp, ml, pr, parts, done, ws⟩ = false) := Lib.hid (by rw [HRR.out, HOK.out]; rfl)
    go_wp2_with fail
    go_region_held3 (fun w' => Below w1.heap.size w1 w' ∧ w'.cell? ⟨gb, 0, none⟩ = some (.int .i64 k) ∧ w'.cell? ⟨gb, 1, none⟩ = some (.int .u32 bc) ∧ w'.cell? ⟨gb, 2, none⟩ = some (.int .u32 bn) ∧ w'.cell? ⟨gb, 3, none⟩ = some (.int .u64 sp) ∧ w'.cell? ⟨gb, 4, none⟩ = some (.int .u32 sl) ∧ w'.cell? ⟨gb, 5, none⟩ = some (.int .u64 ap) ∧ w'.cell? ⟨gb, 6, none⟩ = some (.int .u32 al) ∧ w'.cell? ⟨gb, 7, none⟩ = some (.int .u64 mp) ∧ w'.cell? ⟨gb, 8, none⟩ = some (.int .u32 ml) ∧ w'.cell? ⟨gb, 9, none⟩ = some (.string pr) ∧ w'.cell? ⟨gb, 10, none⟩ = some (.int .u8 parts) ∧ w'.cell? ⟨gb, 11, none⟩ = some (.bool done) ∧ w'.cell? ⟨gb, 12, none⟩ = some (.slice A ws.length c)) (first | exact HKS.out _ (below_drew1 (Below.refl _ _)) | exact HKS.out _ (by assumption) | go_keep) (first | (go_at_call 45; refine (HBR.out _ (by first | assumption | exact And.left (by assumption) | exact below_drew1 (Below.refl _ _))).mono ?_; rintro r wb ⟨A2, c2, rfl, hI, hbb⟩) | (go_at_call 12; refine (HSM.out _ A2 c2 (by first | assumption | exact And.left (by assumption)) (by assumption)).mono ?_; rintro r wt ⟨rfl, hbt⟩))
    all_goals go_wp2_with fail
    all_goals go_ret
    all_goals exact ⟨by rw [HR.out]; rfl, HB1.out.trans (‹Below w1.heap.size w1 _›.mono HB1.out.size)⟩
  | true =>
    go_wp2_with fail
    go_region_held3 (fun w' => Below w1.heap.size w1 w' ∧ w'.cell? ⟨gb, 0, none⟩ = some (.int .i64 k) ∧ w'.cell? ⟨gb, 1, none⟩ = some (.int .u32 bc) ∧ w'.cell? ⟨gb, 2, none⟩ = some (.int .u32 bn) ∧ w'.cell? ⟨gb, 3, none⟩ = some (.int .u64 sp) ∧ w'.cell? ⟨gb, 4, none⟩ = some (.int .u32 sl) ∧ w'.cell? ⟨gb, 5, none⟩ = some (.int .u64 ap) ∧ w'.cell? ⟨gb, 6, none⟩ = some (.int .u32 al) ∧ w'.cell? ⟨gb, 7, none⟩ = some (.int .u64 mp) ∧ w'.cell? ⟨gb, 8, none⟩ = some (.int .u32 ml) ∧ w'.cell? ⟨gb, 9, none⟩ = some (.string pr) ∧ w'.cell? ⟨gb, 10, none⟩ = some (.int .u8 parts) ∧ w'.cell? ⟨gb, 11, none⟩ = some (.bool done) ∧ w'.cell? ⟨gb, 12, none⟩ = some (.slice A ws.length c)) (first | exact HKS.out _ (below_drew1 (Below.refl _ _)) | exact HKS.out _ (by assumption) | go_keep) (first | (go_at_call 45; refine (HBR.out _ (by first | assumption | exact And.left (by assumption) | exact below_drew1 (Below.refl _ _))).mono ?_; rintro r wb ⟨A2, c2, rfl, hI, hbb⟩) | (go_at_call 12; refine (HSM.out _ A2 c2 (by first | assumption | exact And.left (by assumption)) (by assumption)).mono ?_; rintro r wt ⟨rfl, hbt⟩))
    have HX2 := Lib.hid ((hbt.block _ (lt_at2 HX1.out)).trans HX1.out)
    have HB2 := Lib.hid (HB1.out.trans (hbt.mono HB1.out.size))
    generalize wt = w2 at HX2 HB2 ⊢
    clear y0 y1 y2 y3 y4 y5 y6 y7 y8 y9 y10 y11 y12 hbt HBR HSM HKS
    obtain ⟨b0, hb0⟩ : ∃ b, (!rts sp sl) = b := ⟨_, rfl⟩
    have H0 := Lib.hid hb0
    clear hb0
    have y3 : w2.cell? ⟨gb, 3, none⟩ = some (.int .u64 sp) := (blk_cell HX2.out 3).trans rfl
    have y4 : w2.cell? ⟨gb, 4, none⟩ = some (.int .u32 sl) := (blk_cell HX2.out 4).trans rfl
    cases b0 with
    | true =>
      go_wp2_with fail
      refine (rstampB_calls sp sl (!true) (by rw [← H0.out, Bool.not_not]) _).mono ?_
      rintro r w3 ⟨rfl, hb⟩
      have HX3 := Lib.hid ((hb.block _ (lt_at2 HX2.out)).trans HX2.out)
      have HB3 := Lib.hid (HB2.out.trans (hb.mono HB2.out.size))
      clear hb
      clear y3 y4
      have HR : Hid (rightE ⟨k, bc, bn, sp, sl, ap, al, mp, ml, pr, parts, done, ws⟩ = false) := Lib.hid (by rw [HRR.out]; have q := H0.out; rw [Bool.not_eq_true'] at q; rw [q]; simp)
      go_wp2_with fail
      go_ret
      exact ⟨by rw [HR.out]; rfl, HB3.out⟩
    | false =>
      go_wp2_with fail
      refine (rstampB_calls sp sl (!false) (by rw [← H0.out, Bool.not_not]) _).mono ?_
      rintro r w3 ⟨rfl, hb⟩
      have HX3 := Lib.hid ((hb.block _ (lt_at2 HX2.out)).trans HX2.out)
      have HB3 := Lib.hid (HB2.out.trans (hb.mono HB2.out.size))
      clear hb
      clear y3 y4
      obtain ⟨b1, hb1⟩ : ∃ b, (!rts ap al) = b := ⟨_, rfl⟩
      have H1 := Lib.hid hb1
      clear hb1
      have y5 : w3.cell? ⟨gb, 5, none⟩ = some (.int .u64 ap) := (blk_cell HX3.out 5).trans rfl
      have y6 : w3.cell? ⟨gb, 6, none⟩ = some (.int .u32 al) := (blk_cell HX3.out 6).trans rfl
      cases b1 with
      | true =>
        go_wp2_with fail
        refine (rstampB_calls ap al (!true) (by rw [← H1.out, Bool.not_not]) _).mono ?_
        rintro r w4 ⟨rfl, hb⟩
        have HX4 := Lib.hid ((hb.block _ (lt_at2 HX3.out)).trans HX3.out)
        have HB4 := Lib.hid (HB3.out.trans (hb.mono HB3.out.size))
        clear hb
        clear y5 y6
        have HR : Hid (rightE ⟨k, bc, bn, sp, sl, ap, al, mp, ml, pr, parts, done, ws⟩ = false) := Lib.hid (by rw [HRR.out]; have q := H1.out; rw [Bool.not_eq_true'] at q; rw [q]; simp)
        go_wp2_with fail
        go_ret
        exact ⟨by rw [HR.out]; rfl, HB4.out⟩
      | false =>
        go_wp2_with fail
        refine (rstampB_calls ap al (!false) (by rw [← H1.out, Bool.not_not]) _).mono ?_
        rintro r w4 ⟨rfl, hb⟩
        have HX4 := Lib.hid ((hb.block _ (lt_at2 HX3.out)).trans HX3.out)
        have HB4 := Lib.hid (HB3.out.trans (hb.mono HB3.out.size))
        clear hb
        clear y5 y6
        obtain ⟨b2, hb2⟩ : ∃ b, (!rts mp ml) = b := ⟨_, rfl⟩
        have H2 := Lib.hid hb2
        clear hb2
        have y7 : w4.cell? ⟨gb, 7, none⟩ = some (.int .u64 mp) := (blk_cell HX4.out 7).trans rfl
        have y8 : w4.cell? ⟨gb, 8, none⟩ = some (.int .u32 ml) := (blk_cell HX4.out 8).trans rfl
        cases b2 with
        | true =>
          go_wp2_with fail
          refine (rstampB_calls mp ml (!true) (by rw [← H2.out, Bool.not_not]) _).mono ?_
          rintro r w5 ⟨rfl, hb⟩
          have HX5 := Lib.hid ((hb.block _ (lt_at2 HX4.out)).trans HX4.out)
          have HB5 := Lib.hid (HB4.out.trans (hb.mono HB4.out.size))
          clear hb
          clear y7 y8
          have HR : Hid (rightE ⟨k, bc, bn, sp, sl, ap, al, mp, ml, pr, parts, done, ws⟩ = false) := Lib.hid (by rw [HRR.out]; have q := H2.out; rw [Bool.not_eq_true'] at q; rw [q]; simp)
          go_wp2_with fail
          go_ret
          exact ⟨by rw [HR.out]; rfl, HB5.out⟩
        | false =>
          go_wp2_with fail
          refine (rstampB_calls mp ml (!false) (by rw [← H2.out, Bool.not_not]) _).mono ?_
          rintro r w5 ⟨rfl, hb⟩
          have HX5 := Lib.hid ((hb.block _ (lt_at2 HX4.out)).trans HX4.out)
          have HB5 := Lib.hid (HB4.out.trans (hb.mono HB4.out.size))
          clear hb
          clear y7 y8
          have HT : Hid (rightE ⟨k, bc, bn, sp, sl, ap, al, mp, ml, pr, parts, done, ws⟩ = tailE ⟨k, bc, bn, sp, sl, ap, al, mp, ml, pr, parts, done, ws⟩) := Lib.hid (by rw [HRR.out]; have q1 := H0.out; have q2 := H1.out; have q3 := H2.out; rw [Bool.not_eq_false'] at q1 q2 q3; rw [HOK.out, q1, q2, q3]; simp)
          have y0 : w5.cell? ⟨gb, 0, none⟩ = some (.int .i64 k) := (blk_cell HX5.out 0).trans rfl
          have y1 : w5.cell? ⟨gb, 1, none⟩ = some (.int .u32 bc) := (blk_cell HX5.out 1).trans rfl
          have y2 : w5.cell? ⟨gb, 2, none⟩ = some (.int .u32 bn) := (blk_cell HX5.out 2).trans rfl
          have y3 : w5.cell? ⟨gb, 3, none⟩ = some (.int .u64 sp) := (blk_cell HX5.out 3).trans rfl
          have y4 : w5.cell? ⟨gb, 4, none⟩ = some (.int .u32 sl) := (blk_cell HX5.out 4).trans rfl
          have y5 : w5.cell? ⟨gb, 5, none⟩ = some (.int .u64 ap) := (blk_cell HX5.out 5).trans rfl
          have y6 : w5.cell? ⟨gb, 6, none⟩ = some (.int .u32 al) := (blk_cell HX5.out 6).trans rfl
          have y7 : w5.cell? ⟨gb, 7, none⟩ = some (.int .u64 mp) := (blk_cell HX5.out 7).trans rfl
          have y8 : w5.cell? ⟨gb, 8, none⟩ = some (.int .u32 ml) := (blk_cell HX5.out 8).trans rfl
          have y9 : w5.cell? ⟨gb, 9, none⟩ = some (.string pr) := (blk_cell HX5.out 9).trans rfl
          have y10 : w5.cell? ⟨gb, 10, none⟩ = some (.int .u8 parts) := (blk_cell HX5.out 10).trans rfl
          have y11 : w5.cell? ⟨gb, 11, none⟩ = some (.bool done) := (blk_cell HX5.out 11).trans rfl
          have y12 : w5.cell? ⟨gb, 12, none⟩ = some (.slice A ws.length c) := (blk_cell HX5.out 12).trans rfl
          clear H0 H1 H2 HRR HOK
          rcases (show k = 1 ∨ k = 5 ∨ k = 6 ∨ k = 7 ∨ k = 3 ∨ k = 4 ∨ k = 2 ∨ k = 8 ∨ k = 9 by have := HK9.out; omega) with rfl | rfl | rfl | rfl | rfl | rfl | rfl | rfl | rfl
          · go_wp2_with fail
            go_ret
            exact ⟨by rw [HT.out]; simp [tailE], HB5.out⟩
          · go_wp2_with fail
            go_ret
            exact ⟨by rw [HT.out]; simp [tailE], HB5.out⟩
          · go_wp2_with fail
            go_ret
            exact ⟨by rw [HT.out]; simp [tailE], HB5.out⟩
          · go_wp2_with fail
            go_ret
            exact ⟨by rw [HT.out]; simp [tailE], HB5.out⟩
          · go_wp2_with fail
            go_ret
            exact ⟨by rw [HT.out]; simp [tailE, z, ib], HB5.out⟩
          · go_wp2_with fail
            go_ret
            exact ⟨by rw [HT.out]; simp [tailE, z, ib], HB5.out⟩
          · obtain ⟨kb, hkb⟩ : ∃ b, keyB pr = b := ⟨_, rfl⟩
            have HKB := Lib.hid hkb
            clear hkb
            cases kb with
            | false =>
              go_wp2_with fail
              refine (rkeyB_calls pr false HKB.out _).mono ?_
              rintro r w6 ⟨rfl, hb⟩
              have HB6 := Lib.hid (HB5.out.trans (hb.mono HB5.out.size))
              clear hb
              go_wp2_with fail
              go_ret
              exact ⟨by rw [HT.out]; simp [tailE, HKB.out], HB6.out⟩
            | true =>
              obtain ⟨lb, hlb⟩ : ∃ b, latchR ws = b := ⟨_, rfl⟩
              have HLB := Lib.hid hlb
              clear hlb
              go_wp2_with fail
              refine (rkeyB_calls pr true HKB.out _).mono ?_
              rintro r w6 ⟨rfl, hb⟩
              have HX6 := Lib.hid ((hb.block _ (lt_at2 HX5.out)).trans HX5.out)
              have HB6 := Lib.hid (HB5.out.trans (hb.mono HB5.out.size))
              clear hb
              have z12 : w6.cell? ⟨gb, 12, none⟩ = some (.slice A ws.length c) := (blk_cell HX6.out 12).trans rfl
              go_wp2_with fail
              refine (rlatchB_calls ws A c _ lb HLB.out (Kd.C_below HC.out.h HB6.out) HC.out.z hl).mono ?_
              rintro r w7 ⟨rfl, hb⟩
              have HB7 := Lib.hid (HB6.out.trans (hb.mono HB6.out.size))
              clear hb
              go_wp2_with fail
              go_ret
              exact ⟨by rw [HT.out]; simp [tailE, HKB.out, HLB.out], HB7.out⟩
          · by_cases h1 : ws.length = 1
            · have d6 : ((ws.length : Int) == 1) = true := by simp; omega
              have d7 : (ws.length == 1) = true := by simp; omega
              have HE : Hid (decide (ws.length = 1) = true) := Lib.hid (decide_eq_true h1)
              obtain ⟨lb, hlb⟩ : ∃ b, latchR ws = b := ⟨_, rfl⟩
              have HLB := Lib.hid hlb
              clear hlb
              clear h1
              go_wp2_with fail
              refine (rlatchB_calls ws A c _ lb HLB.out (Kd.C_below HC.out.h HB5.out) HC.out.z hl).mono ?_
              rintro r w7 ⟨rfl, hb⟩
              have HB7 := Lib.hid (HB5.out.trans (hb.mono HB5.out.size))
              clear hb
              go_wp2_with fail
              go_ret
              exact ⟨by rw [HT.out]; have q := HE.out; rw [decide_eq_true_eq] at q; simp [tailE, q, HLB.out], HB7.out⟩
            · have d6 : ((ws.length : Int) == 1) = false := by simp; omega
              have d7 : (ws.length == 1) = false := by simp; omega
              have HE : Hid (decide (ws.length = 1) = false) := Lib.hid (decide_eq_false h1)
              clear h1
              go_wp2_with fail
              go_ret
              exact ⟨by rw [HT.out]; have q := HE.out; rw [decide_eq_false_iff_not] at q; simp [tailE, q], HB5.out⟩
          · by_cases hap : ap = 0
            · subst hap
              by_cases hal : al = 0
              · subst hal
                by_cases hpt : parts = 0
                · subst hpt
                  go_wp2_with fail
                  go_ret
                  exact ⟨by rw [HT.out]; simp [tailE, z], HB5.out⟩
                · have d6 : (parts == 0) = false := by simpa using hpt
                  go_wp2_with fail
                  go_ret
                  exact ⟨by rw [HT.out]; simp [tailE, z, hpt], HB5.out⟩
              · have d6 : (al == 0) = false := by simpa using hal
                go_wp2_with fail
                go_ret
                exact ⟨by rw [HT.out]; simp [tailE, z, hal], HB5.out⟩
            · have d6 : (ap == 0) = false := by simpa using hap
              go_wp2_with fail
              go_ret
              exact ⟨by rw [HT.out]; simp [tailE, z, hap], HB5.out⟩
end Go.Proofs.Ytblabgdkbcphkaa

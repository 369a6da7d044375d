/- Which entries are right: entry's Right. Conditions: those that each theorem names. -/
import Derived.Test.YtblabgdkbcphkaaEe
set_option linter.unusedVariables false
set_option linter.unusedSimpArgs false
set_option linter.constructorNameAsVariable false
namespace Go.Proofs.Ytblabgdkbcphkaa
open Go.RowKit Go.Proofs.YtblabgdkbcphkaaW.PrintWords Go.Proofs.Ytblabgdkbcphkaa.PEs
attribute [local go_sem high] eqA24 eqA27
theorem tl_size (s : ByteArray) : s.toList.length = s.size := by rw [ByteArray.toList_eq]; rfl
theorem key_nil (s : ByteArray) (h : s.toList = []) : keyB s = false := by
  have h0 : s.size = 0 := by rw [← tl_size, h]; rfl
  unfold keyB
  rw [decide_eq_false (by omega)]
  rfl
/-- What a kind asks besides. -/
def tailE (e : En) : Bool :=
  if e.k = 2 then keyB e.pr && latchR e.ws
  else if e.k = 3 ∨ e.k = 4 then !(z e.ap && z e.al)
  else if e.k = 8 then decide (e.ws.length = 1) && latchR e.ws
  else if e.k = 9 then !(z e.ap && z e.al) || (z e.parts && !e.done)
  else true
/-- May it stand in a log? -/
def rightE (e : En) : Bool := decide (1 ≤ e.k) && decide (e.k ≤ 9) && okE e && rts e.sp e.sl && rts e.ap e.al && rts e.mp e.ml && tailE e
theorem fieldsB_calls (k v : Int) (h : fieldsR k = v) (w : World) : Calls Try.prog 14 #[.int .i64 k] w fun e w' => e = .returned (.int .i64 v) ∧ Below w.heap.size w w' :=
  (fields_calls k w).mono fun _ _ ⟨a, b⟩ => ⟨by rw [a, h], b.below⟩
theorem fields_pos (k : Int) (h : 1 ≤ k ∧ k ≤ 9) : (fieldsR k == 0) = false := by
  rcases (show k = 1 ∨ k = 2 ∨ k = 3 ∨ k = 4 ∨ k = 5 ∨ k = 6 ∨ k = 7 ∨ k = 8 ∨ k = 9 by omega) with rfl | rfl | rfl | rfl | rfl | rfl | rfl | rfl | rfl <;> rfl
theorem stampB_calls (p l : Int) (b : Bool) (h : rts p l = b) (w : World) : Calls Try.prog 27 #[.agg #[.int .u64 p, .int .u32 l]] w fun e w' => e = .returned (.bool b) ∧ Below w.heap.size w w' :=
  (stamp_calls p l w).mono fun _ _ ⟨a, c⟩ => ⟨by rw [a, h], c⟩
theorem spareB_calls (e : En) (A : Option Addr) (c : Nat) (w : World) (f : Int) (hf : fieldsR e.k = f) (b : Bool) (hb : (!okE e) = b) (hk : 1 ≤ e.k ∧ e.k ≤ 9) (hl : e.ws.length ≤ 9223372036854775807) :
    Calls Try.prog 26 #[.agg #[.int .i64 e.k, .int .u32 e.bc, .int .u32 e.bn, .int .u64 e.sp, .int .u32 e.sl, .int .u64 e.ap, .int .u32 e.al, .int .u64 e.mp, .int .u32 e.ml, .string e.pr, .int .u8 e.parts, .bool e.done, .slice A e.ws.length c], .int .i64 f] w fun r w' => r = .returned (.bool b) ∧ Below w.heap.size w w' := by
  rw [← hf]
  exact (spare_calls e A c w hk hl).mono fun _ _ ⟨a, c⟩ => ⟨by rw [a, hb], c⟩
theorem latchB_calls (ws : List S54) (A : Option Addr) (c : Nat) (w : World) (b : Bool) (hb : latchR ws = b) (hC : Kd.C k54 w A ws.length ws) (hz : ws.length ≤ 9223372036854775807) :
    Calls Try.prog 28 #[.slice A ws.length c] w fun e w' => e = .returned (.bool b) ∧ Below w.heap.size w w' :=
  (latch_calls ws A c w hC hz).mono fun _ _ ⟨a, c⟩ => ⟨by rw [a, hb], c⟩
set_option maxRecDepth 100000 in
set_option maxHeartbeats 16000000 in
theorem right_calls (e : En) (A : Option Addr) (c : Nat) (w : World) (hC : Kd.C k54 w A e.ws.length e.ws) (hl : e.ws.length ≤ 9223372036854775807) :
    Calls Try.prog 10 #[.agg #[.int .i64 e.k, .int .u32 e.bc, .int .u32 e.bn, .int .u64 e.sp, .int .u32 e.sl, .int .u64 e.ap, .int .u32 e.al, .int .u64 e.mp, .int .u32 e.ml, .string e.pr, .int .u8 e.parts, .bool e.done, .slice A e.ws.length c]] w fun r w' => r = .returned (.bool (rightE e)) ∧ Below w.heap.size w w' := by
  have HC := Lib.hid hC
  clear hC
  obtain ⟨k, bc, bn, sp, sl, ap, al, mp, ml, pr, parts, done, ws⟩ := e
  dsimp only at *
  have hl2 : (ws.length : Int) ≤ 9223372036854775807 := by omega
  go_enter Try.func10, Try.ntmps10
  go_upto_region 0 with (fail)
  go_step
  (with_reducible refine gate_dst (N := 1) rfl ?_)
  refine box_event ?hg (N := 1) ?hd (cs := #[(.int .i64 k), (.int .u32 bc), (.int .u32 bn), (.int .u64 sp), (.int .u32 sl), (.int .u64 ap), (.int .u32 al), (.int .u64 mp), (.int .u32 ml), (.string pr), (.int .u8 parts), (.bool done), (.slice A ws.length c)]) (t := 30) ?hr ?_
  case hd => rfl
  case hg => rfl
  case hr => kernel_rfl
  intro gb hgb w1 hbox hbb
  have HB1 := Lib.hid hbb
  have HX1 := Lib.hid hbox
  clear hgb hbox hbb
  have x0 : w1.cell? ⟨gb, 0, none⟩ = some (.int .i64 k) := (blk_cell HX1.out 0).trans rfl
  by_cases hk : 1 ≤ k ∧ k ≤ 9
  case neg =>
    have HF : Hid (fieldsR k = 0) := Lib.hid (by unfold fieldsR; repeat (first | (rw [if_neg (by omega)]) | rfl))
    have HR : Hid (rightE ⟨k, bc, bn, sp, sl, ap, al, mp, ml, pr, parts, done, ws⟩ = false) := Lib.hid (by
      unfold rightE
      rcases (show ¬ 1 ≤ k ∨ ¬ k ≤ 9 by omega) with h | h
      · rw [decide_eq_false h]; rfl
      · rw [decide_eq_false h]; cases decide (1 ≤ k) <;> rfl)
    clear hk
    go_wp2_with fail
    refine (fieldsB_calls k 0 HF.out _).mono ?_
    rintro r w2 ⟨rfl, hb⟩
    have HB2 := Lib.hid (HB1.out.trans (hb.mono HB1.out.size))
    clear hb x0
    go_wp2_with fail
    go_ret
    exact ⟨by rw [HR.out]; rfl, HB2.out⟩
  case pos =>
    obtain ⟨f, hf⟩ : ∃ f, fieldsR k = f := ⟨_, rfl⟩
    have hf0 := fields_pos k hk
    rw [hf] at hf0
    have HF := Lib.hid hf
    have HK := Lib.hid hk
    have HRR : Hid (rightE ⟨k, bc, bn, sp, sl, ap, al, mp, ml, pr, parts, done, ws⟩ = (okE ⟨k, bc, bn, sp, sl, ap, al, mp, ml, pr, parts, done, ws⟩ && rts sp sl && rts ap al && rts mp ml && tailE ⟨k, bc, bn, sp, sl, ap, al, mp, ml, pr, parts, done, ws⟩)) := Lib.hid (by
      unfold rightE
      rw [decide_eq_true hk.1, decide_eq_true hk.2]
      rfl)
    clear hf hk
    go_wp2_with fail
    refine (fieldsB_calls k f HF.out _).mono ?_
    rintro r w2 ⟨rfl, hb⟩
    have HX2 := Lib.hid ((hb.block _ (lt_at2 HX1.out)).trans HX1.out)
    have HB2 := Lib.hid (HB1.out.trans (hb.mono HB1.out.size))
    clear hb x0
    obtain ⟨b0, hb0⟩ : ∃ b, (!okE ⟨k, bc, bn, sp, sl, ap, al, mp, ml, pr, parts, done, ws⟩) = b := ⟨_, rfl⟩
    have H0 := Lib.hid hb0
    clear hb0
    have y0 : w2.cell? ⟨gb, 0, none⟩ = some (.int .i64 k) := (blk_cell HX2.out 0).trans rfl
    have y1 : w2.cell? ⟨gb, 1, none⟩ = some (.int .u32 bc) := (blk_cell HX2.out 1).trans rfl
    have y2 : w2.cell? ⟨gb, 2, none⟩ = some (.int .u32 bn) := (blk_cell HX2.out 2).trans rfl
    have y3 : w2.cell? ⟨gb, 3, none⟩ = some (.int .u64 sp) := (blk_cell HX2.out 3).trans rfl
    have y4 : w2.cell? ⟨gb, 4, none⟩ = some (.int .u32 sl) := (blk_cell HX2.out 4).trans rfl
    have y5 : w2.cell? ⟨gb, 5, none⟩ = some (.int .u64 ap) := (blk_cell HX2.out 5).trans rfl
    have y6 : w2.cell? ⟨gb, 6, none⟩ = some (.int .u32 al) := (blk_cell HX2.out 6).trans rfl
    have y7 : w2.cell? ⟨gb, 7, none⟩ = some (.int .u64 mp) := (blk_cell HX2.out 7).trans rfl
    have y8 : w2.cell? ⟨gb, 8, none⟩ = some (.int .u32 ml) := (blk_cell HX2.out 8).trans rfl
    have y9 : w2.cell? ⟨gb, 9, none⟩ = some (.string pr) := (blk_cell HX2.out 9).trans rfl
    have y10 : w2.cell? ⟨gb, 10, none⟩ = some (.int .u8 parts) := (blk_cell HX2.out 10).trans rfl
    have y11 : w2.cell? ⟨gb, 11, none⟩ = some (.bool done) := (blk_cell HX2.out 11).trans rfl
    have y12 : w2.cell? ⟨gb, 12, none⟩ = some (.slice A ws.length c) := (blk_cell HX2.out 12).trans rfl
    cases b0 with
    | true =>
      go_wp2_with fail
      skip
      refine (spareB_calls ⟨k, bc, bn, sp, sl, ap, al, mp, ml, pr, parts, done, ws⟩ A c _ f HF.out true H0.out HK.out hl).mono ?_
      rintro r w3 ⟨rfl, hb⟩
      have HX3 := Lib.hid ((hb.block _ (lt_at2 HX2.out)).trans HX2.out)
      have HB3 := Lib.hid (HB2.out.trans (hb.mono HB2.out.size))
      clear hb
      clear y0 y1 y2 y3 y4 y5 y6 y7 y8 y9 y10 y11 y12
      have HR : Hid (rightE ⟨k, bc, bn, sp, sl, ap, al, mp, ml, pr, parts, done, ws⟩ = false) := Lib.hid (by rw [HRR.out]; have q := H0.out; rw [Bool.not_eq_true'] at q; rw [q]; simp)
      go_wp2_with fail
      go_ret
      exact ⟨by rw [HR.out]; rfl, HB3.out⟩
    | false =>
      go_wp2_with fail
      refine (spareB_calls ⟨k, bc, bn, sp, sl, ap, al, mp, ml, pr, parts, done, ws⟩ A c _ f HF.out false H0.out HK.out hl).mono ?_
      rintro r w3 ⟨rfl, hb⟩
      have HX3 := Lib.hid ((hb.block _ (lt_at2 HX2.out)).trans HX2.out)
      have HB3 := Lib.hid (HB2.out.trans (hb.mono HB2.out.size))
      clear hb
      clear y0 y1 y2 y3 y4 y5 y6 y7 y8 y9 y10 y11 y12
      obtain ⟨b1, hb1⟩ : ∃ b, (!rts sp sl) = b := ⟨_, rfl⟩
      have H1 := Lib.hid hb1
      clear hb1
      have y3 : w3.cell? ⟨gb, 3, none⟩ = some (.int .u64 sp) := (blk_cell HX3.out 3).trans rfl
      have y4 : w3.cell? ⟨gb, 4, none⟩ = some (.int .u32 sl) := (blk_cell HX3.out 4).trans rfl
      cases b1 with
      | true =>
        go_wp2_with fail
        refine (stampB_calls sp sl (!true) (by rw [← H1.out, Bool.not_not]) _).mono ?_
        rintro r w4 ⟨rfl, hb⟩
        have HX4 := Lib.hid ((hb.block _ (lt_at2 HX3.out)).trans HX3.out)
        have HB4 := Lib.hid (HB3.out.trans (hb.mono HB3.out.size))
        clear hb
        clear y3 y4
        have HR : Hid (rightE ⟨k, bc, bn, sp, sl, ap, al, mp, ml, pr, parts, done, ws⟩ = false) := Lib.hid (by rw [HRR.out]; have q := H1.out; rw [Bool.not_eq_true'] at q; rw [q]; simp)
        go_wp2_with fail
        go_ret
        exact ⟨by rw [HR.out]; rfl, HB4.out⟩
      | false =>
        go_wp2_with fail
        refine (stampB_calls sp sl (!false) (by rw [← H1.out, Bool.not_not]) _).mono ?_
        rintro r w4 ⟨rfl, hb⟩
        have HX4 := Lib.hid ((hb.block _ (lt_at2 HX3.out)).trans HX3.out)
        have HB4 := Lib.hid (HB3.out.trans (hb.mono HB3.out.size))
        clear hb
        clear y3 y4
        obtain ⟨b2, hb2⟩ : ∃ b, (!rts ap al) = b := ⟨_, rfl⟩
        have H2 := Lib.hid hb2
        clear hb2
        have y5 : w4.cell? ⟨gb, 5, none⟩ = some (.int .u64 ap) := (blk_cell HX4.out 5).trans rfl
        have y6 : w4.cell? ⟨gb, 6, none⟩ = some (.int .u32 al) := (blk_cell HX4.out 6).trans rfl
        cases b2 with
        | true =>
          go_wp2_with fail
          refine (stampB_calls ap al (!true) (by rw [← H2.out, Bool.not_not]) _).mono ?_
          rintro r w5 ⟨rfl, hb⟩
          have HX5 := Lib.hid ((hb.block _ (lt_at2 HX4.out)).trans HX4.out)
          have HB5 := Lib.hid (HB4.out.trans (hb.mono HB4.out.size))
          clear hb
          clear y5 y6
          have HR : Hid (rightE ⟨k, bc, bn, sp, sl, ap, al, mp, ml, pr, parts, done, ws⟩ = false) := Lib.hid (by rw [HRR.out]; have q := H2.out; rw [Bool.not_eq_true'] at q; rw [q]; simp)
          go_wp2_with fail
          go_ret
          exact ⟨by rw [HR.out]; rfl, HB5.out⟩
        | false =>
          go_wp2_with fail
          refine (stampB_calls ap al (!false) (by rw [← H2.out, Bool.not_not]) _).mono ?_
          rintro r w5 ⟨rfl, hb⟩
          have HX5 := Lib.hid ((hb.block _ (lt_at2 HX4.out)).trans HX4.out)
          have HB5 := Lib.hid (HB4.out.trans (hb.mono HB4.out.size))
          clear hb
          clear y5 y6
          obtain ⟨b3, hb3⟩ : ∃ b, (!rts mp ml) = b := ⟨_, rfl⟩
          have H3 := Lib.hid hb3
          clear hb3
          have y7 : w5.cell? ⟨gb, 7, none⟩ = some (.int .u64 mp) := (blk_cell HX5.out 7).trans rfl
          have y8 : w5.cell? ⟨gb, 8, none⟩ = some (.int .u32 ml) := (blk_cell HX5.out 8).trans rfl
          cases b3 with
          | true =>
            go_wp2_with fail
            refine (stampB_calls mp ml (!true) (by rw [← H3.out, Bool.not_not]) _).mono ?_
            rintro r w6 ⟨rfl, hb⟩
            have HX6 := Lib.hid ((hb.block _ (lt_at2 HX5.out)).trans HX5.out)
            have HB6 := Lib.hid (HB5.out.trans (hb.mono HB5.out.size))
            clear hb
            clear y7 y8
            have HR : Hid (rightE ⟨k, bc, bn, sp, sl, ap, al, mp, ml, pr, parts, done, ws⟩ = false) := Lib.hid (by rw [HRR.out]; have q := H3.out; rw [Bool.not_eq_true'] at q; rw [q]; simp)
            go_wp2_with fail
            go_ret
            exact ⟨by rw [HR.out]; rfl, HB6.out⟩
          | false =>
            go_wp2_with fail
            refine (stampB_calls mp ml (!false) (by rw [← H3.out, Bool.not_not]) _).mono ?_
            rintro r w6 ⟨rfl, hb⟩
            have HX6 := Lib.hid ((hb.block _ (lt_at2 HX5.out)).trans HX5.out)
            have HB6 := Lib.hid (HB5.out.trans (hb.mono HB5.out.size))
            clear hb
            clear y7 y8
            have HT : Hid (rightE ⟨k, bc, bn, sp, sl, ap, al, mp, ml, pr, parts, done, ws⟩ = tailE ⟨k, bc, bn, sp, sl, ap, al, mp, ml, pr, parts, done, ws⟩) := Lib.hid (by rw [HRR.out]; have q0 := H0.out; have q1 := H1.out; have q2 := H2.out; have q3 := H3.out; rw [Bool.not_eq_false'] at q0 q1 q2 q3; rw [q0, q1, q2, q3]; simp)
            have y0 : w6.cell? ⟨gb, 0, none⟩ = some (.int .i64 k) := (blk_cell HX6.out 0).trans rfl
            have y1 : w6.cell? ⟨gb, 1, none⟩ = some (.int .u32 bc) := (blk_cell HX6.out 1).trans rfl
            have y2 : w6.cell? ⟨gb, 2, none⟩ = some (.int .u32 bn) := (blk_cell HX6.out 2).trans rfl
            have y3 : w6.cell? ⟨gb, 3, none⟩ = some (.int .u64 sp) := (blk_cell HX6.out 3).trans rfl
            have y4 : w6.cell? ⟨gb, 4, none⟩ = some (.int .u32 sl) := (blk_cell HX6.out 4).trans rfl
            have y5 : w6.cell? ⟨gb, 5, none⟩ = some (.int .u64 ap) := (blk_cell HX6.out 5).trans rfl
            have y6 : w6.cell? ⟨gb, 6, none⟩ = some (.int .u32 al) := (blk_cell HX6.out 6).trans rfl
            have y7 : w6.cell? ⟨gb, 7, none⟩ = some (.int .u64 mp) := (blk_cell HX6.out 7).trans rfl
            have y8 : w6.cell? ⟨gb, 8, none⟩ = some (.int .u32 ml) := (blk_cell HX6.out 8).trans rfl
            have y9 : w6.cell? ⟨gb, 9, none⟩ = some (.string pr) := (blk_cell HX6.out 9).trans rfl
            have y10 : w6.cell? ⟨gb, 10, none⟩ = some (.int .u8 parts) := (blk_cell HX6.out 10).trans rfl
            have y11 : w6.cell? ⟨gb, 11, none⟩ = some (.bool done) := (blk_cell HX6.out 11).trans rfl
            have y12 : w6.cell? ⟨gb, 12, none⟩ = some (.slice A ws.length c) := (blk_cell HX6.out 12).trans rfl
            clear H0 H1 H2 H3 HRR
            rcases (show k = 1 ∨ k = 5 ∨ k = 6 ∨ k = 7 ∨ k = 3 ∨ k = 4 ∨ k = 2 ∨ k = 8 ∨ k = 9 by have := HK.out; omega) with rfl | rfl | rfl | rfl | rfl | rfl | rfl | rfl | rfl
            · go_wp2_with fail
              go_ret
              exact ⟨by rw [HT.out]; simp [tailE], HB6.out⟩
            · go_wp2_with fail
              go_ret
              exact ⟨by rw [HT.out]; simp [tailE], HB6.out⟩
            · go_wp2_with fail
              go_ret
              exact ⟨by rw [HT.out]; simp [tailE], HB6.out⟩
            · go_wp2_with fail
              go_ret
              exact ⟨by rw [HT.out]; simp [tailE], HB6.out⟩
            · go_wp2_with fail
              go_ret
              exact ⟨by rw [HT.out]; simp [tailE, z, ib], HB6.out⟩
            · go_wp2_with fail
              go_ret
              exact ⟨by rw [HT.out]; simp [tailE, z, ib], HB6.out⟩
            · by_cases hp : pr.toList = []
              · have HE : Hid (keyB pr = false) := Lib.hid (key_nil pr hp)
                have d5 : pr.toList.isEmpty = true := by rw [hp]; rfl
                clear hp
                go_wp2_with fail
                go_ret
                exact ⟨by rw [HT.out]; simp [tailE, HE.out], HB6.out⟩
              · have d5 : pr.toList.isEmpty = false := by cases hq : pr.toList with | nil => exact absurd hq hp | cons => rfl
                have hps : 1 ≤ pr.size := by rw [← tl_size]; exact List.length_pos_iff.2 hp
                by_cases h32 : pr.size ≤ 32
                · have HE : Hid (keyB pr = true) := Lib.hid (by unfold keyB; rw [decide_eq_true hps, decide_eq_true h32]; rfl)
                  have d6 : decide ((pr.size : Int) ≤ 32) = true := decide_eq_true (by omega)
                  have d7 : decide (pr.size ≤ 32) = true := decide_eq_true h32
                  obtain ⟨lb, hlb⟩ : ∃ b, latchR ws = b := ⟨_, rfl⟩
                  have HLB := Lib.hid hlb
                  clear hlb
                  clear hp
                  go_wp2_with fail
                  refine (latchB_calls ws A c _ lb HLB.out (Kd.C_below HC.out HB6.out) hl).mono ?_
                  rintro r w7 ⟨rfl, hb⟩
                  have HB7 := Lib.hid (HB6.out.trans (hb.mono HB6.out.size))
                  clear hb
                  go_wp2_with fail
                  go_ret
                  exact ⟨by rw [HT.out]; simp [tailE, HE.out, HLB.out], HB7.out⟩
                · have HE : Hid (keyB pr = false) := Lib.hid (by unfold keyB; rw [decide_eq_false h32]; simp)
                  have d6 : decide ((pr.size : Int) ≤ 32) = false := decide_eq_false (by omega)
                  have d7 : decide (pr.size ≤ 32) = false := decide_eq_false h32
                  clear hp
                  go_wp2_with fail
                  go_ret
                  exact ⟨by rw [HT.out]; simp [tailE, HE.out], HB6.out⟩
            · by_cases h1 : ws.length = 1
              · have d6 : ((ws.length : Int) == 1) = true := by simp; omega
                have d7 : (ws.length == 1) = true := by simp; omega
                have HE : Hid (decide (ws.length = 1) = true) := Lib.hid (decide_eq_true h1)
                obtain ⟨lb, hlb⟩ : ∃ b, latchR ws = b := ⟨_, rfl⟩
                have HLB := Lib.hid hlb
                clear hlb
                have h1' := h1
                clear h1' h1
                go_wp2_with fail
                refine (latchB_calls ws A c _ lb HLB.out (Kd.C_below HC.out HB6.out) hl).mono ?_
                rintro r w7 ⟨rfl, hb⟩
                have HB7 := Lib.hid (HB6.out.trans (hb.mono HB6.out.size))
                clear hb
                go_wp2_with fail
                go_ret
                exact ⟨by rw [HT.out]; have q := HE.out; rw [decide_eq_true_eq] at q; simp [tailE, q, HLB.out], HB7.out⟩
              · have d6 : ((ws.length : Int) == 1) = false := by simp; omega
                have d7 : (ws.length == 1) = false := by simp; omega
                have HE : Hid (decide (ws.length = 1) = false) := Lib.hid (decide_eq_false h1)
                clear h1
                go_wp2_with fail
                go_ret
                exact ⟨by rw [HT.out]; have q := HE.out; rw [decide_eq_false_iff_not] at q; simp [tailE, q], HB6.out⟩
            · by_cases hap : ap = 0
              · subst hap
                by_cases hal : al = 0
                · subst hal
                  by_cases hpt : parts = 0
                  · subst hpt
                    go_wp2_with fail
                    go_ret
                    exact ⟨by rw [HT.out]; simp [tailE, z], HB6.out⟩
                  · have d6 : (parts == 0) = false := by simpa using hpt
                    go_wp2_with fail
                    go_ret
                    exact ⟨by rw [HT.out]; simp [tailE, z, hpt], HB6.out⟩
                · have d6 : (al == 0) = false := by simpa using hal
                  go_wp2_with fail
                  go_ret
                  exact ⟨by rw [HT.out]; simp [tailE, z, hal], HB6.out⟩
              · have d6 : (ap == 0) = false := by simpa using hap
                go_wp2_with fail
                go_ret
                exact ⟨by rw [HT.out]; simp [tailE, z, hap], HB6.out⟩
end Go.Proofs.Ytblabgdkbcphkaa

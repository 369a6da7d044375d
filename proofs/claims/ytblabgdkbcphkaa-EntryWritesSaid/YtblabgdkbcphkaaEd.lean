/- Which lists of writes may be laid: latch's Right and the document's. Conditions: those that each theorem names. -/
import Derived.Test.YtblabgdkbcphkaaEc
import Derived.Carry
set_option linter.unusedVariables false
set_option linter.unusedSimpArgs false
set_option linter.constructorNameAsVariable false
namespace Go.Proofs.Ytblabgdkbcphkaa
open Go.RowKit Go.Proofs.YtblabgdkbcphkaaW.PrintWords Go.Proofs.Ytblabgdkbcphkaa.PEs
theorem rd_at (ws : List S54) (i : Nat) (h : i < ws.length) : rd_T54 ws (i : Int) = ws[i] := by
  unfold rd_T54
  rw [List.getD_eq_getElem?_getD, Int.toNat_natCast, List.getElem?_eq_getElem h]
  rfl
theorem l1_eq (ws : List S54) (i : Nat) (hi : i < ws.length) (hz : ws.length ≤ 9223372036854775807) : ∀ (d j k : Nat), j + d = i → d + 1 ≤ k →
    dovecoteref10_Right.l1 k ws (i : Int) (j : Int) = if seenB ((ws.take i).drop j) ws[i].f0 = true then some false else dovecoteref10_Right.l0 (k - (d + 1)) ws ((i : Int) + 1) := by
  intro d
  induction d with
  | zero =>
    intro j k hj hk
    obtain rfl : j = i := by omega
    obtain ⟨k, rfl⟩ : ∃ m, k = m + 1 := ⟨k - 1, by omega⟩
    have e : wrap64 ((j : Int) + 1) = (j : Int) + 1 := by unfold wrap64; omega
    rw [dovecoteref10_Right.l1, if_neg (by omega), e, List.drop_eq_nil_of_le (by rw [List.length_take]; omega), if_neg (by simp [seenB])]
    rfl
  | succ d ih =>
    intro j k hj hk
    obtain ⟨k, rfl⟩ : ∃ m, k = m + 1 := ⟨k - 1, by omega⟩
    have e : wrap64 ((j : Int) + 1) = ((j + 1 : Nat) : Int) := by unfold wrap64; omega
    have hl : j < (ws.take i).length := by rw [List.length_take]; omega
    have hs : seenB ((ws.take i).drop j) ws[i].f0 = (eS ws[j].f0 ws[i].f0 || seenB ((ws.take i).drop (j + 1)) ws[i].f0) := by
      rw [List.drop_eq_getElem_cons hl, List.getElem_take]
      rfl
    rw [dovecoteref10_Right.l1, if_pos (by omega), if_pos (by omega), if_pos (by omega), if_pos (by omega), if_pos (by omega), rd_at ws j (by omega), rd_at ws i hi, e, hs]
    by_cases hq : ws[j].f0.toList = ws[i].f0.toList
    · rw [if_pos hq, show eS ws[j].f0 ws[i].f0 = true from decide_eq_true hq]
      rfl
    · rw [if_neg hq, show eS ws[j].f0 ws[i].f0 = false from decide_eq_false hq, Bool.false_or, ih (j + 1) k (by omega) (by omega)]
      rw [show k + 1 - (d + 1 + 1) = k - (d + 1) by omega]
theorem l0_eq (ws : List S54) (hz : ws.length ≤ 9223372036854775807) : ∀ (n i k : Nat), i + n = ws.length → n * (ws.length + 3) + 1 ≤ k →
    dovecoteref10_Right.l0 k ws (i : Int) = some (decide (1 ≤ ws.length) && decide (ws.length ≤ 16) && latchGo (ws.take i) (ws.drop i)) := by
  intro n
  induction n with
  | zero =>
    intro i k hi hk
    obtain rfl : i = ws.length := by omega
    obtain ⟨k, rfl⟩ : ∃ m, k = m + 1 := ⟨k - 1, by omega⟩
    rw [dovecoteref10_Right.l0, if_neg (by omega), List.drop_length, latchGo, Bool.and_true]
    by_cases h1 : 1 ≤ ws.length
    · rw [if_pos (by omega), decide_eq_true h1, Bool.true_and]
      congr 1
      rw [Bool.eq_iff_iff, decide_eq_true_eq, decide_eq_true_eq]
      omega
    · rw [if_neg (by omega), decide_eq_false h1]; rfl
  | succ n ih =>
    intro i k hi hk
    have hlt : i < ws.length := by omega
    have hk2 : (n + 1) * (ws.length + 3) = n * (ws.length + 3) + (ws.length + 3) := Nat.succ_mul _ _
    obtain ⟨k, rfl⟩ : ∃ m, k = m + 2 := ⟨k - 2, by omega⟩
    have hl1 := l1_eq ws i hlt hz i 0 k (by omega) (by omega)
    rw [List.drop_zero] at hl1
    have hrest := ih (i + 1) (k - (i + 1)) (by omega) (by omega)
    have ei : (((i + 1 : Nat)) : Int) = (i : Int) + 1 := by omega
    rw [ei] at hrest
    rw [hrest] at hl1
    have hgo : latchGo (ws.take i) (ws.drop i) = (okW ws[i] && !seenB (ws.take i) ws[i].f0 && latchGo (ws.take (i + 1)) (ws.drop (i + 1))) := by
      rw [List.drop_eq_getElem_cons hlt, latchGo, List.take_succ_eq_append_getElem hlt]
    have hj : ∀ b : Bool, dovecoteref10_Right.j1 (k + 1) ws (i : Int) b = if b = true then some false else if seenB (ws.take i) ws[i].f0 = true then some false else some (decide (1 ≤ ws.length) && decide (ws.length ≤ 16) && latchGo (ws.take (i + 1)) (ws.drop (i + 1))) := by
      intro b
      rw [dovecoteref10_Right.j1]
      by_cases hb : b = true
      · rw [if_pos hb, if_pos hb]
      · rw [if_neg hb, if_neg hb]; exact hl1
    rw [dovecoteref10_Right.l0, if_pos (by omega), if_pos (by omega), rd_at ws i hlt, dovecoteref09_Key.f, keyf, Option.bind_some, hgo]
    generalize ws[i] = x at *
    obtain ⟨x0, x1, x2⟩ := x
    dsimp only at *
    unfold okW
    dsimp only
    cases hk0 : keyB x0 with
    | false => rw [if_neg (by decide), hj]; simp
    | true =>
      rw [if_pos rfl]
      by_cases hv : (x1.size : Int) > 256
      · rw [if_pos hv, hj, decide_eq_false (show ¬ x1.size ≤ 256 by omega)]; simp
      · rw [if_neg hv, decide_eq_true (show x1.size ≤ 256 by omega)]
        have hne : (x1.toList != ([] : List UInt8)) = !e0 x1 := by
          unfold e0
          by_cases h : x1.toList = []
          · rw [decide_eq_true h, h]; rfl
          · rw [decide_eq_false h]; simpa using h
        cases x2 with
        | true =>
          rw [if_pos rfl, hne, hj]
          cases e0 x1 <;> cases seenB (ws.take i) x0 <;> simp
        | false =>
          rw [if_neg (by decide), hj]
          cases seenB (ws.take i) x0 <;> simp
theorem rlatch_calls (ws : List S54) (A : Option Addr) (c : Nat) (w : World) (hC : Kd.C k54 w A ws.length ws) (hc : ws.length ≤ c) (hz : ws.length ≤ 9223372036854775807) :
    Calls Try.prog 48 #[.slice A ws.length c] w fun e w' => e = .returned (.bool (latchR ws)) ∧ Below w.heap.size w w' := by
  refine (dovecoteref10_Right.calls (ws.length * (ws.length + 3) + 1) A c ws (latchR ws) w hC hc ?_).mono fun _ _ ⟨h, k⟩ => ⟨h, k.below⟩
  have h := l0_eq ws hz ws.length 0 (ws.length * (ws.length + 3) + 1) (by omega) (Nat.le_refl _)
  exact h
/-! latch's own. -/
theorem key0_calls (s : ByteArray) (b : Bool) (hb : keyB s = b) (w : World) : Calls Try.prog 49 #[.string s] w fun e w' => e = .returned (.bool b) ∧ w' = w := by
  by_cases h1 : 1 ≤ s.size
  · by_cases h2 : s.size ≤ 32
    · obtain rfl : b = true := by rw [← hb]; unfold keyB; rw [decide_eq_true h1, decide_eq_true h2]; rfl
      have i1 : (1 : Int) ≤ (s.size : Int) := by omega
      have i2 : decide ((s.size : Int) ≤ 32) = true := decide_eq_true (by omega)
      have i3 : decide (s.size ≤ 32) = true := decide_eq_true h2
      clear hb
      go_enter Try.func49, Try.ntmps49
      go_wp2
      go_ret
      exact ⟨rfl, rfl⟩
    · obtain rfl : b = false := by rw [← hb]; unfold keyB; rw [decide_eq_true h1, decide_eq_false h2]; rfl
      have i1 : (1 : Int) ≤ (s.size : Int) := by omega
      have i2 : decide ((s.size : Int) ≤ 32) = false := decide_eq_false (by omega)
      have i3 : decide (s.size ≤ 32) = false := decide_eq_false h2
      clear hb
      go_enter Try.func49, Try.ntmps49
      go_wp2
      go_ret
      exact ⟨rfl, rfl⟩
  · obtain rfl : b = false := by rw [← hb]; unfold keyB; rw [decide_eq_false h1]; rfl
    have i1 : (s.size : Int) < 1 := by omega
    have i2 : decide ((1 : Int) ≤ (s.size : Int)) = false := decide_eq_false (by omega)
    clear hb
    go_enter Try.func49, Try.ntmps49
    go_wp2
    go_ret
    exact ⟨rfl, rfl⟩
set_option maxRecDepth 100000 in
set_option maxHeartbeats 16000000 in
theorem latch_calls (ws : List S54) (A : Option Addr) (c : Nat) (w : World) (hC : Kd.C k54 w A ws.length ws) (hz : ws.length ≤ 9223372036854775807) :
    Calls Try.prog 28 #[.slice A ws.length c] w fun e w' => e = .returned (.bool (latchR ws)) ∧ Below w.heap.size w w' := by
  have hmm := @run_makeMap Try.prog
  have HC := Lib.hid hC
  have HZ := Lib.hid hz
  have hz2 : (ws.length : Int) ≤ 9223372036854775807 := by omega
  clear hC
  go_enter Try.func28, Try.ntmps28
  go_wp2_with fail
  go_loopg [9] (ws.length + 1) (fun gk v9 wr => ∃ (i : Nat) (D : DataW Unit), i ≤ ws.length ∧ v9 = .int .i64 (i : Int) ∧ Aside0 (i + gk = ws.length + 1) ∧ Aside0 (Below w.heap.size w wr ∧ wr.ownsMap Try.prog 9 (plainElem Try.prog 4) w.heap.size i D ∧ MapK D (ws.take i) ∧ latchGo [] ws = latchGo (ws.take i) (ws.drop i) ∧ (0 < i → ws.length ≤ 16)))
  case atStart => exact ⟨0, .map [], Nat.zero_le _, rfl, ⟨by omega⟩, ⟨below_alloc' (Below.refl _ w) _, World.ownsMap_made _ _ _ _, MapK.nil, rfl, fun h => absurd h (Nat.lt_irrefl _)⟩⟩
  case round =>
  obtain ⟨i, D, hi, rfl, ⟨hgk⟩, ⟨hB, hO, hM, hL, hS⟩⟩ := hrel
  have HG := Lib.hid hgk
  have HB := Lib.hid hB
  have HO := Lib.hid hO
  have HM := Lib.hid hM
  have HL := Lib.hid hL
  have HS := Lib.hid hS
  clear hgk hB hO hM hL hS
  rcases (show i < ws.length ∨ i = ws.length by omega) with hlt | rfl
  · as_aux_lemma =>
    obtain ⟨ad, rfl, k0, k1, k2⟩ := at_T54 (Kd.C_below HC.out HB.out) (i : Int) (by omega) (by omega)
    rw [Int.toNat_natCast] at k0 k1 k2
    have HE := Lib.hid (rd_at ws i hlt)
    have HBAD := Lib.hid (go_bad ws i hlt HL.out)
    have HSTEP := Lib.hid (go_step ws i hlt HL.out)
    have HTK := Lib.hid (List.take_succ_eq_append_getElem hlt)
    rw [← HE.out] at HBAD HSTEP HTK
    clear HE
    generalize rd_T54 ws (i : Int) = x at *
    obtain ⟨x0, x1, x2⟩ := x
    dsimp only at *
    have HF : Hid (okW ⟨x0, x1, x2⟩ = false ∨ seenB (ws.take i) x0 = true ∨ 16 < ws.length → latchR ws = false) := Lib.hid (by
      intro h
      unfold latchR
      rcases h with h | h | h
      · rw [HBAD.out (.inl h), Bool.and_false]
      · rw [HBAD.out (.inr h), Bool.and_false]
      · rw [decide_eq_false (show ¬ ws.length ≤ 16 by omega), Bool.and_false, Bool.false_and])
    by_cases hl16 : 16 < ws.length
    · as_aux_lemma =>
      have HR := Lib.hid (HF.out (.inr (.inr hl16)))
      have d1 : decide ((16 : Int) < (ws.length : Int)) = true := decide_eq_true (by omega)
      have d2 : decide (16 < ws.length) = true := decide_eq_true hl16
      go_wp2_with fail
      go_ret
      exact ⟨by rw [HR.out]; rfl, below_alloc' HB.out _⟩
    · have d1 : decide ((16 : Int) < (ws.length : Int)) = false := decide_eq_false (by omega)
      have d2 : decide (16 < ws.length) = false := decide_eq_false hl16
      obtain ⟨bk, hbk⟩ : ∃ b, keyB x0 = b := ⟨_, rfl⟩
      have HK := Lib.hid hbk
      cases bk with
      | false =>
        as_aux_lemma =>
        have HR := Lib.hid (HF.out (.inl (by unfold okW; rw [hbk]; rfl)))
        clear hbk
        go_wp2_with fail
        refine (key0_calls x0 false HK.out _).mono ?_
        rintro e w1 ⟨rfl, rfl⟩
        go_wp2_with fail
        go_ret
        exact ⟨by rw [HR.out]; rfl, below_alloc' HB.out _⟩
      | true =>
        have hx0 : x0.size ≤ 32 := by unfold keyB at hbk; simp at hbk; omega
        clear hbk
        by_cases hv : 256 < x1.size
        · as_aux_lemma =>
          have HR := Lib.hid (HF.out (.inl (by unfold okW; dsimp only; rw [decide_eq_false (show ¬ x1.size ≤ 256 by omega)]; simp)))
          have d3 : decide ((256 : Int) < (x1.size : Int)) = true := decide_eq_true (by omega)
          have d4 : decide (256 < x1.size) = true := decide_eq_true hv
          go_wp2_with fail
          refine (key0_calls x0 true HK.out _).mono ?_
          rintro e w1 ⟨rfl, rfl⟩
          go_wp2_with fail
          go_ret
          exact ⟨by rw [HR.out]; rfl, below_alloc' HB.out _⟩
        · have d3 : decide ((256 : Int) < (x1.size : Int)) = false := decide_eq_false (by omega)
          have d4 : decide (256 < x1.size) = false := decide_eq_false hv
          by_cases hd : x2 = true ∧ x1.toList ≠ ([] : List UInt8)
          · as_aux_lemma =>
            obtain ⟨rfl, hd⟩ := hd
            have HR := Lib.hid (HF.out (.inl (by unfold okW e0; dsimp only; rw [decide_eq_false hd]; simp)))
            have d5 : x1.toList.isEmpty = false := by simpa using hd
            go_wp2_with fail
            refine (key0_calls x0 true HK.out _).mono ?_
            rintro e w1 ⟨rfl, rfl⟩
            go_wp2_with fail
            go_ret
            exact ⟨by rw [HR.out]; rfl, below_alloc' HB.out _⟩
          · obtain ⟨sn, hsn⟩ : ∃ b, seenB (ws.take i) x0 = b := ⟨_, rfl⟩
            have hrun := seen_run (HO.out.alloc (.cells #[.string x0, .string x1, .bool x2] 54)) HM.out x0 (by unfold maxLen; omega)
            rw [hsn] at hrun
            have hok : okW ⟨x0, x1, x2⟩ = true := by
              unfold okW e0
              dsimp only
              rw [HK.out, decide_eq_true (show x1.size ≤ 256 by omega)]
              cases x2 with
              | false => rfl
              | true => rw [decide_eq_true (show x1.toList = [] from Classical.byContradiction fun h => hd ⟨rfl, h⟩)]; rfl
            have HOK := Lib.hid hok
            have HSN := Lib.hid hsn
            clear hok hsn
            have hdd : x2 = false ∨ (x2 = true ∧ x1.toList = ([] : List UInt8)) := by
              cases x2 with
              | false => exact .inl rfl
              | true => exact .inr ⟨rfl, Classical.byContradiction fun h => hd ⟨rfl, h⟩⟩
            clear hd
            cases sn with
            | true =>
              have HR := Lib.hid (HF.out (.inr (.inl HSN.out)))
              rcases hdd with rfl | ⟨rfl, d5⟩
              all_goals
                as_aux_lemma =>
                go_wp2_with fail
                refine (key0_calls x0 true HK.out _).mono ?_
                rintro e w1 ⟨rfl, rfl⟩
                go_wp2_with fail
                go_ret
                exact ⟨by rw [HR.out]; rfl, below_alloc' HB.out _⟩
            | false =>
              have HT := Lib.hid (HSTEP.out HOK.out HSN.out)
              have hkey := Go.WideMaps.keyOf_string_mk (k := 9) Try.underlying9 (s := x0) (show x0.size ≤ maxLen by unfold maxLen; omega)
              have HKEY := Lib.hid hkey
              clear hkey
              rcases hdd with rfl | ⟨rfl, d5⟩
              all_goals
                as_aux_lemma =>
                go_wp2_with fail
                refine (key0_calls x0 true HK.out _).mono ?_
                rintro e w1 ⟨rfl, rfl⟩
                go_wp2_with (at_mapUpdate; refine wpList_mapUpdate_own _ rfl _ _ _ 79 rfl 9 4 lawK Try.underlying79 (plainElem (H := Unit) Try.prog 4) w.heap.size i _ rfl (HO.out.alloc _) (by unfold maxLen; omega) _ _ _ rfl rfl HKEY.out _ [] (plainElem_bool Try.underlying4 true) ?_; intro w2 hown2 hgrow2; have HO2 := Lib.hid hown2; have HG2 := Lib.hid hgrow2; clear hown2 hgrow2)
                go_roundg (gk - 1)
                case measure => have := HG.out; omega
                case rel => exact ⟨i + 1, _, by omega, by go_num, ⟨by have := HG.out; omega⟩, ⟨(below_alloc' HB.out _).grown HG2.out (by have := HB.out.size; simp; omega) (fun j hj => by cases hj; exact Nat.le_refl _), HO2.out, by rw [HTK.out]; exact HM.out.snoc ⟨x0, x1, _⟩, HT.out, fun _ => by omega⟩⟩
  · as_aux_lemma =>
    have hge := go_end ws HL.out
    have HR : Hid (latchR ws = (decide (1 ≤ ws.length) && decide (ws.length ≤ 16))) := Lib.hid (by unfold latchR; rw [hge, Bool.and_true])
    clear hge
    rcases (show ws.length = 0 ∨ 0 < ws.length by omega) with h0 | h0
    · have hn : ws = [] := List.length_eq_zero_iff.1 h0
      subst hn
      go_wp2_with fail
      go_ret
      exact ⟨by rw [HR.out]; rfl, HB.out⟩
    · have h16 := HS.out h0
      have d1 : decide ((0 : Int) < (ws.length : Int)) = true := decide_eq_true (by omega)
      have d2 : decide (0 < ws.length) = true := decide_eq_true h0
      have HR2 : Hid (latchR ws = true) := Lib.hid (by rw [HR.out, decide_eq_true (show 1 ≤ ws.length from h0), decide_eq_true h16]; rfl)
      go_wp2_with fail
      go_ret
      exact ⟨by rw [HR2.out]; rfl, HB.out⟩
end Go.Proofs.Ytblabgdkbcphkaa

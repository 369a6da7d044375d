/- The walk of DrumSure: what was synced is there behind any fall, and what is there is a beginning of what was written. Condition: what the arguments' types demand. -/
import Derived.Test.YtahfcnbdladfbaaBq
set_option linter.unusedVariables false
set_option linter.unusedSimpArgs false
namespace Go.Proofs.Ytahfcnbdladfbaa
open Go.RowKit Go.Deep Go.Proofs.YtahfcnbdladfbaaW.PrintWords

theorem sole_fall (xs : List Int) (n : Nat) (hn : n < 4) (b : ByteArray) (s : Nat) : fallTo xs (sole n b s) 4 = sole n (b.extract 0 (s + keepN xs n (b.size - s))) (b.extract 0 (s + keepN xs n (b.size - s))).size := by
  funext i
  unfold fallTo
  by_cases h : i = n
  · subst h; rw [if_pos hn, sole_at, sole_at]; rfl
  · have e : ∀ b s, sole n b s i = none := fun b s => if_neg h
    rw [e, e]
    split <;> rfl
theorem ext_size (b : ByteArray) (m : Nat) (h : m ≤ b.size) : (b.extract 0 m).size = m := by rw [ByteArray.size_extract]; omega
/-- What an act on the one area comes to. -/
theorem sure_do (room left : Int) (down : Bool) (b : ByteArray) (s : Nat) (hs : s ≤ b.size) (a : S36) (h1 : a.f1 = 1) (h0 : 3 ≤ a.f0) (h6 : a.f0 ≤ 6) :
    (a.f0 = 3 ∧ ∃ l' d', doR room left down (sole 1 b s) a = (0, l', d', sole 1 (b ++ a.f3) s)) ∨ (a.f0 = 4 ∧ ∃ l' d', doR room left down (sole 1 b s) a = (0, l', d', sole 1 b b.size)) ∨
    (a.f0 = 6 ∧ ∃ n, s ≤ n ∧ n ≤ b.size ∧ doR room left down (sole 1 b s) a = (0, -1, false, sole 1 (b.extract 0 n) n)) ∨
    (a.f0 = 5 ∧ doR room left down (sole 1 b s) a = (0, max a.f2 (-1), down, sole 1 b s)) ∨
    ((a.f0 = 3 ∨ a.f0 = 4) ∧ ∃ c l' d', (c = 10 ∨ c = 11) ∧ doR room left down (sole 1 b s) a = (c, l', d', sole 1 b s)) := by
  unfold doR
  rw [if_neg (by omega), if_neg (by omega), if_neg (by omega), h1]
  rcases (show a.f0 = 3 ∨ a.f0 = 4 ∨ a.f0 = 5 ∨ a.f0 = 6 by omega) with h | h | h | h
  · rw [if_pos h]
    cases down with
    | true => exact .inr (.inr (.inr (.inr ⟨.inl h, 11, left, true, .inr rfl, by unfold stepR; rw [if_pos rfl]⟩)))
    | false =>
      by_cases hr : ((b.size + a.f3.size : Nat) : Int) ≤ room
      · by_cases hl : left = 0
        · subst hl
          refine .inr (.inr (.inr (.inr ⟨.inl h, 11, 0, true, .inr rfl, ?_⟩)))
          unfold stepR
          rw [if_neg (by decide), if_neg (by decide)]
          have e : writeRef (usedTo (sole 1 b s) 4) a.f3.size room (sole 1 b s (1 : Int).toNat) = 0 := by
            rw [sole_used 1 (by decide)]; exact if_pos hr
          rw [e, if_neg (by decide), if_pos rfl]
        · exact .inl ⟨h, _, false, sole_write left _ rfl 1 (by decide) b a.f3 s room hr hl⟩
      · refine .inr (.inr (.inr (.inr ⟨.inl h, 10, left, false, .inl rfl, ?_⟩)))
        have e : writeRef (usedTo (sole 1 b s) 4) a.f3.size room (sole 1 b s (1 : Int).toNat) = 10 := by
          rw [sole_used 1 (by decide)]; exact if_neg hr
        unfold stepR
        rw [if_neg (by decide), if_neg (by decide), e, if_pos (by decide)]
  · rw [if_neg (by omega), if_pos h]
    cases down with
    | true => exact .inr (.inr (.inr (.inr ⟨.inr h, 11, left, true, .inr rfl, by unfold stepR; rw [if_pos rfl]⟩)))
    | false =>
      by_cases hl : left = 0
      · subst hl
        refine .inr (.inr (.inr (.inr ⟨.inr h, 11, 0, true, .inr rfl, ?_⟩)))
        unfold stepR
        rw [if_neg (by decide), if_neg (by decide)]
        have e : thereRef (sole 1 b s (1 : Int).toNat) = 0 := rfl
        rw [e, if_neg (by decide), if_pos rfl]
      · exact .inr (.inl ⟨h, _, false, sole_sync left _ rfl 1 (by decide) b s hl⟩)
  · rw [if_neg (by omega), if_neg (by omega), if_pos h]
    exact .inr (.inr (.inr (.inl ⟨h, rfl⟩)))
  · rw [if_neg (by omega), if_neg (by omega), if_neg (by omega), if_pos h]
    have hk := keepN_le a.f4 1 (b.size - s)
    refine .inr (.inr (.inl ⟨h, s + keepN a.f4 1 (b.size - s), by omega, by omega, ?_⟩))
    rw [sole_fall a.f4 1 (by decide), ext_size _ _ (by omega)]
/-- An act in a cell of its own. -/
def boxX (k : Nat) (o : Obj) : Nat → Obj → Prop := fun i u => i = k ∧ u = o
set_option maxRecDepth 100000 in
set_option maxHeartbeats 8000000 in
theorem sure_calls (R : Option Addr) (cap : Nat) (l : List S36) (hlc : l.length ≤ cap) (hf : ∀ x ∈ l, ActOk x) (w : World) (hC : k36.C w R l.length l) :
    Calls Try.prog 4 #[.slice R l.length cap] w fun e w' => e = .returned (.bool true) ∧ Below w.heap.size w w' := by
  have HA := Lib.hid (awake_calls w)
  have HC := Lib.hid hC
  have Hf := Lib.hid hf
  clear hC hf
  go_enter Try.func4, Try.ntmps4
  go_wp2_with fail
  refine HA.out.mono ?_
  rintro e w0 ⟨rfl, hB⟩
  have HB0 := Lib.hid hB
  clear hB HA
  have HN := Lib.hid (new_calls 100000 (by decide) w w0 HB0.out)
  go_wp2_with fail
  refine HN.out.mono ?_
  rintro e w1 ⟨hB, h⟩
  rw [if_neg (by decide)] at h
  obtain ⟨g, rfl, K, V, hI⟩ := h
  have HI1 := Lib.hid hI
  have HB1 := Lib.hid hB
  clear hI hB HN HB0
  go_wp2_with fail
  refine (lay_calls 1 HI1.out HB1.out (by decide) (by decide)).mono ?_
  rw [show stepR (-1) false (fun _ => none) 1 layRef layAct = (0, -1, false, sole 1 ByteArray.empty 0) from sole_lay 1 (by decide)]
  rintro e w2 ⟨rfl, ⟨K, V, hI⟩, hB⟩
  have HI2 := Lib.hid hI
  have HB2 := Lib.hid hB
  clear hI hB HI1 HB1
  go_wp2_with fail
  go_loopg [5, 6, 26] (l.length + 1) (fun gk v5 v6 v26 wr => ∃ (i : Nat) (b : ByteArray) (s : Nat) (left : Int) (down : Bool) (K : Nat → Nat) (V : Nat → Value), i ≤ l.length ∧ i ≤ 100 ∧ v26 = .int .i64 (i : Int) ∧ v5 = .string b ∧ v6 = .int .i64 (s : Int) ∧ Aside0 (i + gk = l.length + 1) ∧ Aside0 (IsD NoX w wr g 100000 left down (sole 1 b s) K V ∧ Below w.heap.size w wr ∧ Fit 100000 left (sole 1 b s) ∧ s ≤ b.size))
  case atStart => exact ⟨0, ByteArray.empty, 0, -1, false, K, V, Nat.zero_le _, Nat.zero_le _, rfl, rfl, rfl, ⟨by omega⟩, ⟨HI2.out, HB2.out, Fit.sole 1 (by decide) ByteArray.empty 0 (Nat.le_refl _) 100000 (-1) (by decide) (by decide), Nat.le_refl _⟩⟩
  case round =>
    obtain ⟨i, b, s, left, down, K, V, hi, hi100, rfl, rfl, rfl, ⟨hg⟩, ⟨hI, hB, hFit, hs⟩⟩ := hrel
    have HI := Lib.hid hI
    have HB := Lib.hid hB
    have HG := Lib.hid hg
    have HFit := Lib.hid hFit
    have hbz : b.size ≤ 100000 := by have := hFit.used; rw [sole_used 1 (by decide)] at this; omega
    clear hI hB hg hFit HI2 HB2
    rcases (show i < l.length ∧ i < 100 ∨ i < l.length ∧ i = 100 ∨ i = l.length by omega) with ⟨hlt, h100⟩ | ⟨hlt, h100⟩ | hlt
    · obtain ⟨ad, B, c, ⟨f0, f1, f2, f3, f4⟩, rfl, hx, hok, k0, k1, k2, k3, k4, hbc, hrd, hfar⟩ := act_at HC.out HB.out Hf.out i hlt
      obtain ⟨o0, o1, o2, o3⟩ := hok
      dsimp only at *
      clear hx
      have HRD := Lib.hid hrd
      have HFAR := Lib.hid hfar
      clear hrd hfar
      have HI2 := Lib.hid (HI.out.alloc (.cells #[.int .i64 f0, .int .i64 f1, .int .i64 f2, .string f3, .slice B f4.length c] 36))
      have HB2 := Lib.hid (below_alloc' HB.out (.cells #[.int .i64 f0, .int .i64 f1, .int .i64 f2, .string f3, .slice B f4.length c] 36))
      rcases (show f0 < 3 ∨ (3 ≤ f0 ∧ 6 < f0) ∨ (3 ≤ f0 ∧ f0 ≤ 6 ∧ 500 < f3.size) ∨ (3 ≤ f0 ∧ f0 ≤ 6 ∧ f3.size ≤ 500) by omega) with q | ⟨q, q1⟩ | ⟨q, q1, q2⟩ | ⟨q, q1, q2⟩
      · go_wp2
        go_roundg (gk - 1)
        case measure => have := HG.out; omega
        case rel => exact ⟨i + 1, b, s, left, down, K, V, by omega, by omega, by go_num, rfl, rfl, ⟨by have := HG.out; omega⟩, ⟨HI2.out, HB2.out, HFit.out, hs⟩⟩
      · go_wp2
        go_roundg (gk - 1)
        case measure => have := HG.out; omega
        case rel => exact ⟨i + 1, b, s, left, down, K, V, by omega, by omega, by go_num, rfl, rfl, ⟨by have := HG.out; omega⟩, ⟨HI2.out, HB2.out, HFit.out, hs⟩⟩
      · go_wp2
        go_roundg (gk - 1)
        case measure => have := HG.out; omega
        case rel => exact ⟨i + 1, b, s, left, down, K, V, by omega, by omega, by go_num, rfl, rfl, ⟨by have := HG.out; omega⟩, ⟨HI2.out, HB2.out, HFit.out, hs⟩⟩
      · have HI3 : Hid (IsD (boxX wr.heap.size (.cells #[.int .i64 f0, .int .i64 1, .int .i64 f2, .string f3, .slice B f4.length c] 36)) w (wr.alloc (.cells #[.int .i64 f0, .int .i64 1, .int .i64 f2, .string f3, .slice B f4.length c] 36)) g 100000 left down (sole 1 b s) K V) := Lib.hid ((HI.out.alloc _).more (fun k u h => by
          obtain ⟨rfl, rfl⟩ := h
          exact ⟨heap_alloc_new wr _, _, _, _, rfl, by decide, by decide, by decide⟩))
        have HFit2 := Lib.hid (HFit.out.act (down := down) ⟨f0, 1, f2, f3, f4⟩ o2)
        have HDO := Lib.hid (do_calls (w := wr.alloc (.cells #[.int .i64 f0, .int .i64 1, .int .i64 f2, .string f3, .slice B f4.length c] 36)) ⟨f0, 1, f2, f3, f4⟩ B c HI3.out (below_alloc' HB.out _) HFit.out (by decide) (by dsimp only; omega) (by dsimp only; decide) hbc (HRD.out.allocS _) HFAR.out)
        have hsd := sure_do 100000 left down b s hs ⟨f0, 1, f2, f3, f4⟩ rfl q q1
        dsimp only at *
        clear HI HB HFit HRD HFAR HI3 HI2 HB2 q q1
        rcases hsd with ⟨rfl, l', d', hd⟩ | ⟨rfl, l', d', hd⟩ | ⟨rfl, n, hn1, hn2, hd⟩ | ⟨rfl, hd⟩ | ⟨q3, cd, l', d', hcd, hd⟩
        · rw [hd] at HDO HFit2
          clear hd
          go_wp2_with fail
          refine HDO.out.mono ?_
          rintro e w5 ⟨rfl, ⟨K5, V5, hI⟩, hB⟩
          have hbx := (hI.hx _ _ ⟨rfl, rfl⟩).1
          have b0 : w5.cell? ⟨wr.heap.size, 0, none⟩ = some (.int .i64 3) := (blk_cell hbx 0).trans rfl
          have b3 : w5.cell? ⟨wr.heap.size, 3, none⟩ = some (.string f3) := (blk_cell hbx 3).trans rfl
          have HI5 := Lib.hid (hI.more (Y := NoX) fun _ _ h => h.elim)
          have HB5 := Lib.hid hB
          clear hI hB HDO hbx
          go_wp2
          go_roundg (gk - 1)
          case measure => have := HG.out; omega
          case rel => exact ⟨i + 1, b ++ f3, s, l', d', K5, V5, by omega, by omega, by go_num, rfl, rfl, ⟨by have := HG.out; omega⟩, ⟨HI5.out, HB5.out, HFit2.out, by rw [ByteArray.size_append]; omega⟩⟩
        · rw [hd] at HDO HFit2
          clear hd
          go_wp2_with fail
          refine HDO.out.mono ?_
          rintro e w5 ⟨rfl, ⟨K5, V5, hI⟩, hB⟩
          have hbx := (hI.hx _ _ ⟨rfl, rfl⟩).1
          have b0 : w5.cell? ⟨wr.heap.size, 0, none⟩ = some (.int .i64 4) := (blk_cell hbx 0).trans rfl
          have HI5 := Lib.hid (hI.more (Y := NoX) fun _ _ h => h.elim)
          have HB5 := Lib.hid hB
          clear hI hB HDO hbx
          go_wp2
          go_roundg (gk - 1)
          case measure => have := HG.out; omega
          case rel => exact ⟨i + 1, b, b.size, l', d', K5, V5, by omega, by omega, by go_num, rfl, rfl, ⟨by have := HG.out; omega⟩, ⟨HI5.out, HB5.out, HFit2.out, Nat.le_refl _⟩⟩
        · rw [hd] at HDO HFit2
          clear hd
          have hez := ext_size b n hn2
          have hex : b.extract 0 n = b.extract 0 (b.extract 0 n).size := by rw [hez]
          have hsz : n = (b.extract 0 n).size := hez.symm
          generalize b.extract 0 n = x at *
          subst hsz
          have HEX := Lib.hid hex
          clear hex hez
          go_wp2_with fail
          refine HDO.out.mono ?_
          rintro e w5 ⟨rfl, ⟨K5, V5, hI⟩, hB⟩
          have hbx := (hI.hx _ _ ⟨rfl, rfl⟩).1
          have b0 : w5.cell? ⟨wr.heap.size, 0, none⟩ = some (.int .i64 6) := (blk_cell hbx 0).trans rfl
          have HI5 := Lib.hid (hI.more (Y := NoX) fun _ _ h => h.elim)
          have HB5 := Lib.hid hB
          clear hI hB HDO hbx
          go_wp2_with fail
          refine (read_calls 1 HI5.out HB5.out (by decide)).mono ?_
          rw [show readR false (sole 1 x x.size) 1 = (x, 0) from rfl]
          rintro e w6 ⟨rfl, hI, hB⟩
          have HI6 := Lib.hid hI
          have HB6 := Lib.hid hB
          clear hI hB HI5 HB5 b0
          have hne : (x.toList == (b.extract 0 x.size).toList) = true := by rw [← HEX.out]; exact beq_self_eq_true _
          have hd1 : ¬ x.size < s := by omega
          have hd2 : ¬ b.size < x.size := by omega
          go_wp2
          go_roundg (gk - 1)
          case measure => have := HG.out; omega
          case rel => exact ⟨i + 1, x, x.size, -1, false, K5, V5, by omega, by omega, by go_num, rfl, rfl, ⟨by have := HG.out; omega⟩, ⟨HI6.out, HB6.out, HFit2.out, Nat.le_refl _⟩⟩
        · rw [hd] at HDO HFit2
          clear hd
          generalize max f2 (-1) = l' at *
          go_wp2_with fail
          refine HDO.out.mono ?_
          rintro e w5 ⟨rfl, ⟨K5, V5, hI⟩, hB⟩
          have hbx := (hI.hx _ _ ⟨rfl, rfl⟩).1
          have b0 : w5.cell? ⟨wr.heap.size, 0, none⟩ = some (.int .i64 5) := (blk_cell hbx 0).trans rfl
          have HI5 := Lib.hid (hI.more (Y := NoX) fun _ _ h => h.elim)
          have HB5 := Lib.hid hB
          clear hI hB HDO hbx
          go_wp2
          go_roundg (gk - 1)
          case measure => have := HG.out; omega
          case rel => exact ⟨i + 1, b, s, l', down, K5, V5, by omega, by omega, by go_num, rfl, rfl, ⟨by have := HG.out; omega⟩, ⟨HI5.out, HB5.out, HFit2.out, hs⟩⟩
        · rw [hd] at HDO HFit2
          clear hd
          rcases hcd with rfl | rfl <;> rcases q3 with rfl | rfl
          all_goals
            go_wp2_with fail
            refine HDO.out.mono ?_
            rintro e w5 ⟨rfl, ⟨K5, V5, hI⟩, hB⟩
            have hbx := (hI.hx _ _ ⟨rfl, rfl⟩).1
            have b0 := (blk_cell hbx 0).trans (show _ = some (Value.int .i64 _) from rfl)
            have HI5 := Lib.hid (hI.more (Y := NoX) fun _ _ h => h.elim)
            have HB5 := Lib.hid hB
            clear hI hB HDO hbx
            go_wp2
            go_roundg (gk - 1)
            case measure => have := HG.out; omega
            case rel => exact ⟨i + 1, b, s, l', d', K5, V5, by omega, by omega, by go_num, rfl, rfl, ⟨by have := HG.out; omega⟩, ⟨HI5.out, HB5.out, HFit2.out, hs⟩⟩
    · subst h100
      obtain ⟨ad, B, c, ⟨f0, f1, f2, f3, f4⟩, rfl, hx, hok, k0, k1, k2, k3, k4, hbc, hrd, hfar⟩ := act_at HC.out HB.out Hf.out 100 hlt
      dsimp only at *
      clear hx hok hrd hfar
      replace k0 : wr.cell? ⟨ad.block, ad.off + 500, none⟩ = some (.int .i64 f0) := k0
      replace k1 : wr.cell? ⟨ad.block, ad.off + 500 + 1, none⟩ = some (.int .i64 f1) := k1
      replace k2 : wr.cell? ⟨ad.block, ad.off + 500 + 2, none⟩ = some (.int .i64 f2) := k2
      replace k3 : wr.cell? ⟨ad.block, ad.off + 500 + 3, none⟩ = some (.string f3) := k3
      replace k4 : wr.cell? ⟨ad.block, ad.off + 500 + 4, none⟩ = some (.slice B f4.length c) := k4
      replace HI := Lib.hid (HI.out.alloc (.cells #[.int .i64 f0, .int .i64 f1, .int .i64 f2, .string f3, .slice B f4.length c] 36))
      replace HB := Lib.hid (below_alloc' HB.out (.cells #[.int .i64 f0, .int .i64 f1, .int .i64 f2, .string f3, .slice B f4.length c] 36))
      go_wp2_with fail
      refine (fall_calls [] none 0 (by decide) HI.out HB.out (ReadsInt.nil _ _) (fun ad h => by cases h) HFit.out.sb (fun i hi b' s' e => by have := sz_le (sole 1 b s) i hi; rw [e] at this; have h3 : b'.size ≤ usedTo (sole 1 b s) 4 := this; have := HFit.out.used; omega)).mono ?_
      rintro e w5 ⟨rfl, ⟨V5, hI⟩, hB⟩
      rw [sole_fall [] 1 (by decide), show keepN [] 1 (b.size - s) = 0 from rfl, Nat.add_zero, ext_size b s hs] at hI
      have HI5 := Lib.hid hI
      have HB5 := Lib.hid hB
      clear hI hB HI HB
      go_wp2_with fail
      refine (read_calls 1 HI5.out HB5.out (by decide)).mono ?_
      rw [show readR false (sole 1 (b.extract 0 s) s) 1 = (b.extract 0 s, 0) from rfl]
      rintro e w6 ⟨rfl, hI, hB⟩
      have HB6 := Lib.hid hB
      clear hI hB HI5 HB5
      go_wp2_with fail
      go_ret
      exact ⟨rfl, HB6.out⟩
    · subst hlt
      go_wp2_with fail
      refine (fall_calls [] none 0 (by decide) HI.out HB.out (ReadsInt.nil _ _) (fun ad h => by cases h) HFit.out.sb (fun i hi b' s' e => by have := sz_le (sole 1 b s) i hi; rw [e] at this; have h3 : b'.size ≤ usedTo (sole 1 b s) 4 := this; have := HFit.out.used; omega)).mono ?_
      rintro e w5 ⟨rfl, ⟨V5, hI⟩, hB⟩
      rw [sole_fall [] 1 (by decide), show keepN [] 1 (b.size - s) = 0 from rfl, Nat.add_zero, ext_size b s hs] at hI
      have HI5 := Lib.hid hI
      have HB5 := Lib.hid hB
      clear hI hB HI HB
      go_wp2_with fail
      refine (read_calls 1 HI5.out HB5.out (by decide)).mono ?_
      rw [show readR false (sole 1 (b.extract 0 s) s) 1 = (b.extract 0 s, 0) from rfl]
      rintro e w6 ⟨rfl, hI, hB⟩
      have HB6 := Lib.hid hB
      clear hI hB HI5 HB5
      go_wp2_with fail
      go_ret
      exact ⟨rfl, HB6.out⟩
theorem walk_DrumSure {H : Type} {enc : TypeId × Value → H} (W : World) (v0 : Value) (d0 : DataW H) (p0 : List MemPlace)
    (h0 : DataW.Trod enc Try.prog W 0 (fun _ => true) true 34 v0 d0 p0) {base : Nat} (u0 : Value.okWide Try.prog W .any base 34 v0) (z0 : ∀ n ∈ DataW.weights Try.prog 34 d0, n ≤ reachBytes) :
    Calls Try.prog 4 #[v0] W fun e w' => e = .returned (.bool true) ∧ Below W.heap.size W w' := by
  obtain ⟨A, c, l, rfl, hlc, hC, hl, _⟩ := acts_open W v0 d0 p0 h0 u0 z0
  exact sure_calls A c l hlc hl W hC
end Go.Proofs.Ytahfcnbdladfbaa

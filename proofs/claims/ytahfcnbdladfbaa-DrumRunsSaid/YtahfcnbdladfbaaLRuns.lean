/- The walk of DrumRuns: whatever is done to a drum, in any order, it answers as the document says. Condition: what the arguments' types demand. -/
import Derived.Test.YtahfcnbdladfbaaRg
import Derived.Deep.DeepCutAuto
set_option linter.unusedVariables false
set_option linter.unusedSimpArgs false
namespace Go.Proofs.Ytahfcnbdladfbaa
open Go.RowKit Go.Deep Go.Proofs.YtahfcnbdladfbaaW.PrintWords

section
variable (w : World)
theorem down_nil : Calls Try.prog 12 #[.pointer none] w fun e w' => e = .returned (.bool true) ∧ w' = w := by
  go_enter Try.func12, Try.ntmps12
  go_wp2_with fail
  go_ret
  exact ⟨rfl, rfl⟩
theorem step_nil (n : Int) (f1 f2 : Value) : Calls Try.prog 29 #[.pointer none, .int .i64 n, f1, f2] w fun e w' => e = .returned (.int .i64 11) ∧ w' = w := by
  have HD := Lib.hid (down_nil w)
  go_enter Try.func29, Try.ntmps29
  go_wp2_with fail
  refine HD.out.mono ?_
  rintro e w1 ⟨rfl, rfl⟩
  go_wp2_with fail
  go_ret
  exact ⟨rfl, rfl⟩
theorem lay_nil (n : Int) : Calls Try.prog 9 #[.pointer none, .int .i64 n] w fun e w' => e = .returned (.int .i64 11) ∧ w' = w := by
  go_enter Try.func9, Try.ntmps9
  go_wp2_with fail
  refine (step_nil w n _ _).mono ?_
  rintro e w1 ⟨rfl, rfl⟩
  go_wp2_with fail
  go_ret
  exact ⟨rfl, rfl⟩
theorem write_nil (n : Int) (s : ByteArray) : Calls Try.prog 11 #[.pointer none, .int .i64 n, .string s] w fun e w' => e = .returned (.int .i64 11) ∧ Below w.heap.size w w' := by
  go_enter Try.func11, Try.ntmps11
  go_wp2_with fail
  refine (step_nil _ n _ _).mono ?_
  rintro e w1 ⟨rfl, rfl⟩
  go_wp2_with fail
  go_ret
  exact ⟨rfl, by repeat (first | exact Below.refl _ _ | apply below_alloc')⟩
theorem read_nil (n : Int) : Calls Try.prog 17 #[.pointer none, .int .i64 n] w fun e w' => e = .returned (.tuple #[.string ⟨#[]⟩, .int .i64 11]) ∧ w' = w := by
  have HD := Lib.hid (down_nil w)
  go_enter Try.func17, Try.ntmps17
  go_wp2_with fail
  refine HD.out.mono ?_
  rintro e w1 ⟨rfl, rfl⟩
  go_wp2_with fail
  go_ret2
  exact ⟨rfl, rfl⟩
theorem used_nil : Calls Try.prog 14 #[.pointer none] w fun e w' => e = .returned (.int .i64 0) ∧ w' = w := by
  go_enter Try.func14, Try.ntmps14
  go_wp2_with fail
  go_ret
  exact ⟨rfl, rfl⟩
theorem has_nil (n : Int) : Calls Try.prog 19 #[.pointer none, .int .i64 n] w fun e w' => e = .returned (.bool false) ∧ w' = w := by
  go_enter Try.func19, Try.ntmps19
  go_wp2_with fail
  go_ret
  exact ⟨rfl, rfl⟩
end
/-- The document's drum, as a block. -/
def rob (room left : Int) (down : Bool) (A : Nat → Ar) : Obj := .cells (rcells room left down A) 52 (0, 0)
/-- An act's own cell, and the document's drum. -/
def runX (bx : Nat) (o : Obj) (gr : Nat) (o2 : Obj) : Nat → Obj → Prop := fun k u => (k = bx ∧ u = o) ∨ (k = gr ∧ u = o2)
def refX (gr : Nat) (o2 : Obj) : Nat → Obj → Prop := fun k u => k = gr ∧ u = o2
theorem rob_ok (room left : Int) (down : Bool) (A : Nat → Ar) : XOk (rob room left down A) := ⟨_, _, _, rfl, by decide, by decide, by decide⟩
section
variable {X : Nat → Obj → Prop} {w0 W W1 : World} {g gr : Nat} {room left : Int} {down : Bool} {A : Nat → Ar} {K : Nat → Nat} {V : Nat → Value}
theorem IsD.keepG (h : IsD X w0 W g room left down A K V) {cs : Array Value} {fr : Nat × Nat} (hr : W.heap[gr]? = some (.cells cs 52 fr)) (hk : KeepG W W1 gr) {Y : Nat → Obj → Prop} (hy : ∀ k o, Y k o → (k ≠ gr ∧ X k o) ∨ (W1.heap[k]? = some o ∧ XOk o)) : IsD Y w0 W1 g room left down A K V := by
  refine ⟨(hk.2 g (lt_of_at h.hb) (blk_ty h.hb hr (by decide))).trans h.hb, h.hg, fun i hi b s e => ?_, h.hs, fun k o hko => ?_⟩
  · obtain ⟨h1, h2, h3⟩ := h.ha i hi b s e
    exact ⟨(hk.2 _ (lt_of_at h1) (blk_ty h1 hr (by decide))).trans h1, h2, own_move h3 fun k hk' => hk.2 k (own_lt h3 k hk') (row_ne h3 hr (by decide) k hk')⟩
  · rcases hy k o hko with ⟨h1, h2⟩ | h1
    · exact ⟨(hk.2 k (lt_of_at (h.hx k o h2).1) h1).trans (h.hx k o h2).1, (h.hx k o h2).2⟩
    · exact h1
theorem reads_move {w wo wc : World} {B : Option Addr} {n : Nat} {xs : List Int} (h : ReadsInt wo .i64 B n xs) (hf : ∀ ad, B = some ad → 0 < n → ad.block < w.heap.size) (h1 : Below w.heap.size w wo) (h2 : Below w.heap.size w wc) : ReadsInt wc .i64 B n xs := by
  refine ⟨h.1, h.2.1, fun hn => ?_⟩
  obtain ⟨ad, e, hc⟩ := h.2.2 hn
  refine ⟨ad, e, fun j hj => ?_⟩
  have hb : (ad.add j).block < w.heap.size := by
    have := hf ad e hn
    unfold Addr.add
    split <;> exact this
  exact (cell_of_heap (h2.block _ hb)).trans ((cell_of_heap (h1.block _ hb)).symm.trans (hc j hj))
/-- The two drums side by side. -/
def Both (X : Nat → Obj → Prop) (w0 W : World) (g : Nat) (room left : Int) (down : Bool) (A : Nat → Ar) : Prop := (∃ K V, IsD X w0 W g room left down A K V) ∧ Below w0.heap.size w0 W
end
set_option maxRecDepth 100000 in
set_option maxHeartbeats 32000000 in
theorem runs_calls (room : Int) (hrm : -9223372036854775808 ≤ room ∧ room ≤ 9223372036854775807) (R : Option Addr) (cap : Nat) (l : List S36) (hlc : l.length ≤ cap) (hf : ∀ x ∈ l, ActOk x) (w : World) (hC : k36.C w R l.length l) :
    Calls Try.prog 5 #[.int .i64 room, .slice R l.length cap] w fun e w' => e = .returned (.bool true) ∧ Below w.heap.size w w' := by
  have HA := Lib.hid (awake_calls w)
  have HC := Lib.hid hC
  have Hf := Lib.hid hf
  clear hC hf
  go_enter Try.func5, Try.ntmps5
  go_wp2_with fail
  refine HA.out.mono ?_
  rintro e w0 ⟨rfl, hB⟩
  have HB0 := Lib.hid hB
  clear hB HA
  have HN := Lib.hid (new_calls room hrm w w0 HB0.out)
  go_wp2_with fail
  refine HN.out.mono ?_
  rintro e w1 ⟨hB, h⟩
  by_cases hroom : room < 0 ∨ 1048576 < room
  · rw [if_pos hroom] at h
    obtain rfl := h
    have HB1 := Lib.hid hB
    clear hB HN HB0
    go_wp2_with fail
    refine (rnew_calls room hrm w w1 HB1.out).mono ?_
    rintro e w2 ⟨hB, h⟩
    rw [if_pos hroom] at h
    obtain rfl := h
    have HB2 := Lib.hid (HB1.out.trans (hB.mono HB1.out.size))
    clear hB HB1 hroom
    go_wp2_with fail
    refine (read_nil w2 0).mono ?_
    rintro e w3 ⟨rfl, rfl⟩
    go_wp2_with fail
    refine (lay_nil _ 0).mono ?_
    rintro e w3 ⟨rfl, rfl⟩
    go_wp2_with fail
    refine (write_nil _ 0 _).mono ?_
    rintro e w4 ⟨rfl, hB⟩
    have HB4 := Lib.hid (HB2.out.trans (hB.mono HB2.out.size))
    clear hB HB2
    go_wp2_with fail
    refine (down_nil _).mono ?_
    rintro e w5 ⟨rfl, rfl⟩
    go_wp2_with fail
    refine (used_nil _).mono ?_
    rintro e w5 ⟨rfl, rfl⟩
    go_wp2_with fail
    refine (has_nil _ 0).mono ?_
    rintro e w5 ⟨rfl, rfl⟩
    go_wp2_with fail
    go_ret
    exact ⟨rfl, HB4.out⟩
  · rw [if_neg hroom] at h
    obtain ⟨g, rfl, K, V, hI⟩ := h
    have HI1 := Lib.hid hI
    have HB1 := Lib.hid hB
    clear hI hB HN HB0
    go_wp2_with fail
    refine (rnew_calls room hrm w w1 HB1.out).mono ?_
    rintro e w2 ⟨hB, h⟩
    rw [if_neg hroom] at h
    obtain ⟨gr, rfl, hgr, hR⟩ := h
    have HGR : Hid (w.heap.size ≤ gr) := Lib.hid hR.hg
    have HB2 := Lib.hid (HB1.out.trans (hB.mono HB1.out.size))
    have HI2 : Hid (IsD (refX gr (rob room (-1) false fun _ => none)) w w2 g room (-1) false (fun _ => none) K V) := Lib.hid ((HI1.out.below hB).more (fun k u h => by
      obtain ⟨rfl, rfl⟩ := h
      exact ⟨hR.hb, rob_ok _ _ _ _⟩))
    have hr0 : 0 ≤ room := by omega
    have hr1 : room ≤ 1048576 := by omega
    clear hB hR hgr HB1 HI1 hroom
    go_wp2_with fail
    go_loopg [80] (l.length + 1) (fun gk v80 wr => ∃ (i : Nat) (left : Int) (down : Bool) (A : Nat → Ar), i ≤ l.length ∧ i ≤ 150 ∧ v80 = .int .i64 (i : Int) ∧ Aside0 (i + gk = l.length + 1) ∧ Aside0 (Both (refX gr (rob room left down A)) w wr g room left down A ∧ Fit room left A))
    case atStart => exact ⟨0, -1, false, fun _ => none, Nat.zero_le _, Nat.zero_le _, rfl, ⟨by omega⟩, ⟨⟨⟨K, V, HI2.out⟩, HB2.out⟩, ⟨(fun i hi b s e => by cases e), hr0, (by decide)⟩⟩⟩
    case round =>
      obtain ⟨wo, rfl⟩ : ∃ wo : World, wo = wr := ⟨_, rfl⟩
      obtain ⟨gout, rfl⟩ : ∃ gout : Nat, gout = gk := ⟨_, rfl⟩
      obtain ⟨i, left, down, A, hi, hi150, rfl, ⟨hg⟩, ⟨⟨⟨K, V, hI⟩, hB⟩, hFit⟩⟩ := hrel
      have HI := Lib.hid hI
      have HB := Lib.hid hB
      have HG := Lib.hid hg
      have HFit := Lib.hid hFit
      have HR := Lib.hid (show IsR w wo gr room left down A from ⟨(hI.hx gr _ ⟨rfl, rfl⟩).1, HGR.out⟩)
      clear hI hB hg hFit HI2 HB2
      rcases (show i < l.length ∧ i < 150 ∨ i < l.length ∧ i = 150 ∨ i = l.length by omega) with ⟨hlt, h150⟩ | ⟨hlt, h150⟩ | hlt
      · obtain ⟨ad, B, c, ⟨f0, f1, f2, f3, f4⟩, rfl, hx, hok, k0, k1, k2, k3, k4, hbc, hrd, hfar⟩ := act_at HC.out HB.out Hf.out i hlt
        obtain ⟨o0, o1, o2, o3⟩ := hok
        dsimp only at *
        clear hx
        have HRD := Lib.hid hrd
        have HFAR := Lib.hid hfar
        clear hrd hfar
        have hl := HFit.out.left
        have hus := HFit.out.used
        have HSB : Hid (Sb A) := Lib.hid HFit.out.sb
        have hux : usedTo A 4 ≤ 140737488355328 := by omega
        have HFit2 := Lib.hid (HFit.out.act (down := down) ⟨f0, f1, f2, f3, f4⟩ o2)
        have HR2 := Lib.hid (HR.out.alloc (.cells #[.int .i64 f0, .int .i64 f1, .int .i64 f2, .string f3, .slice B f4.length c] 36))
        have HB2 := Lib.hid (below_alloc' HB.out (.cells #[.int .i64 f0, .int .i64 f1, .int .i64 f2, .string f3, .slice B f4.length c] 36))
        have HI2 : Hid (IsD (runX wo.heap.size (.cells #[.int .i64 f0, .int .i64 f1, .int .i64 f2, .string f3, .slice B f4.length c] 36) gr (rob room left down A)) w (wo.alloc (.cells #[.int .i64 f0, .int .i64 f1, .int .i64 f2, .string f3, .slice B f4.length c] 36)) g room left down A K V) := Lib.hid ((HI.out.alloc _).more (fun k u h => by
          rcases h with ⟨rfl, rfl⟩ | ⟨rfl, rfl⟩
          · exact ⟨heap_alloc_new wo _, _, _, _, rfl, by decide, by decide, by decide⟩
          · exact ⟨(HR.out.alloc _).hb, rob_ok _ _ _ _⟩))
        have hne : gr ≠ wo.heap.size := by have := lt_of_at HR.out.hb; omega
        have HNE := Lib.hid hne
        have HD := Lib.hid (show doR room left down A ⟨f0, f1, f2, f3, f4⟩ = doR room left down A ⟨f0, f1, f2, f3, f4⟩ from rfl)
        obtain ⟨r, hr⟩ : ∃ r, doR room left down A ⟨f0, f1, f2, f3, f4⟩ = r := ⟨_, rfl⟩
        obtain ⟨rc, l1, d1, A1⟩ := r
        have HDR := Lib.hid hr
        rw [hr] at HFit2
        clear hr HD
        -- the document's drum goes on
        have HT : Hid (∀ w5, IsR w w5 gr room l1 d1 A1 → Below w.heap.size w w5 → KeepG (wo.alloc (.cells #[.int .i64 f0, .int .i64 f1, .int .i64 f2, .string f3, .slice B f4.length c] 36)) w5 gr → Both (runX wo.heap.size (.cells #[.int .i64 f0, .int .i64 f1, .int .i64 f2, .string f3, .slice B f4.length c] 36) gr (rob room l1 d1 A1)) w w5 g room left down A) := Lib.hid (fun w5 h1 h2 h3 => ⟨⟨K, V, HI2.out.keepG HR2.out.hb h3 (fun k o hk => by
          rcases hk with ⟨rfl, rfl⟩ | ⟨rfl, rfl⟩
          · exact .inl ⟨fun e => HNE.out e.symm, .inl ⟨rfl, rfl⟩⟩
          · exact .inr ⟨h1.hb, rob_ok _ _ _ _⟩)⟩, h2⟩)
        clear hne
        go_upto_block 2 with fail
        go_cut [13] (fun s13 wx => s13 = .int .i64 rc ∧ Both (runX wo.heap.size (.cells #[.int .i64 f0, .int .i64 f1, .int .i64 f2, .string f3, .slice B f4.length c] 36) gr (rob room l1 d1 A1)) w wx g room left down A)
        case first =>
          rcases (show f0 = 0 ∨ f0 = 1 ∨ f0 = 2 ∨ f0 = 3 ∨ f0 = 4 ∨ f0 = 5 ∨ f0 = 6 ∨ (f0 ≠ 0 ∧ f0 ≠ 1 ∧ f0 ≠ 2 ∧ f0 ≠ 3 ∧ f0 ≠ 4 ∧ f0 ≠ 5 ∧ f0 ≠ 6) by omega) with rfl | rfl | rfl | rfl | rfl | rfl | rfl | ⟨n0, n1, n2, n3, n4, n5, n6⟩
          · have HS : Hid (stepR left down A f1 layRef layAct = (rc, l1, d1, A1)) := HDR
            go_wp2_with fail
            refine (rlay_calls f1 HR2.out HB2.out hl o1).mono ?_
            rw [HS.out]
            rintro e w5 ⟨rfl, h1, h2, h3⟩
            have HT5 := Lib.hid (HT.out w5 h1 h2 h3)
            clear h1 h2 h3
            go_wp2_with fail
            go_meet
            exact ⟨rfl, HT5.out⟩
          · have HS : Hid (stepR left down A f1 thereRef cutAct = (rc, l1, d1, A1)) := HDR
            go_wp2_with fail
            refine (rcut_calls f1 HR2.out HB2.out hl o1 HSB.out hux).mono ?_
            rw [HS.out]
            rintro e w5 ⟨rfl, h1, h2, h3⟩
            have HT5 := Lib.hid (HT.out w5 h1 h2 h3)
            clear h1 h2 h3
            go_wp2_with fail
            go_meet
            exact ⟨rfl, HT5.out⟩
          · have HS : Hid (stepR left down A f1 (trimRef f2) (trimAct f2) = (rc, l1, d1, A1)) := HDR
            go_wp2_with fail
            refine (rtrim_calls f1 f2 HR2.out HB2.out hl o1 HSB.out hux o2.2).mono ?_
            rw [HS.out]
            rintro e w5 ⟨rfl, h1, h2, h3⟩
            have HT5 := Lib.hid (HT.out w5 h1 h2 h3)
            clear h1 h2 h3
            go_wp2_with fail
            go_meet
            exact ⟨rfl, HT5.out⟩
          · have HS : Hid (stepR left down A f1 (writeRef (usedTo A 4) f3.size room) (writeAct f3) = (rc, l1, d1, A1)) := HDR
            go_wp2_with fail
            refine (rwrite_calls f1 f3 HR2.out HB2.out hl o1 HSB.out hux (by omega)).mono ?_
            rw [HS.out]
            rintro e w5 ⟨rfl, h1, h2, h3⟩
            have HT5 := Lib.hid (HT.out w5 h1 h2 h3)
            clear h1 h2 h3
            go_wp2_with fail
            go_meet
            exact ⟨rfl, HT5.out⟩
          · have HS : Hid (stepR left down A f1 thereRef syncAct = (rc, l1, d1, A1)) := HDR
            go_wp2_with fail
            refine (rsync_calls f1 HR2.out HB2.out hl o1 HSB.out hux).mono ?_
            rw [HS.out]
            rintro e w5 ⟨rfl, h1, h2, h3⟩
            have HT5 := Lib.hid (HT.out w5 h1 h2 h3)
            clear h1 h2 h3
            go_wp2_with fail
            go_meet
            exact ⟨rfl, HT5.out⟩
          · have hS : ((0 : Int), max f2 (-1), down, A) = (rc, l1, d1, A1) := HDR.out
            simp only [Prod.mk.injEq] at hS
            obtain ⟨rfl, hl1, rfl, rfl⟩ := hS
            have c1 := HR2.out.c1
            have g1 := HR2.out.f 1
            have HT5 : Hid (∀ x : Int, x = l1 → ∀ w5, w5 = (wo.alloc (.cells #[.int .i64 5, .int .i64 f1, .int .i64 f2, .string f3, .slice B f4.length c] 36)).setCell ⟨gr, 1, none⟩ (.int .i64 x) → Both (runX wo.heap.size (.cells #[.int .i64 5, .int .i64 f1, .int .i64 f2, .string f3, .slice B f4.length c] 36) gr (rob room l1 down A)) w w5 g room left down A) := Lib.hid (fun x hx w5 h5 => by
              subst hx h5
              exact HT.out _ (HR2.out.setLeft _) (HB2.out.setCell HGR.out _) ((KeepG.refl _ _).set _ _))
            rcases (show f2 ≤ -1 ∨ -1 < f2 by omega) with hn | hn
            · have HL1 := Lib.hid (show -1 = l1 by omega)
              clear hl1
              go_wp2_with fail
              all_goals go_meet
              all_goals first | exact ⟨rfl, HT5.out _ HL1.out _ rfl⟩ | exact ⟨rfl, HT5.out f2 (by have := HL1.out; omega) _ rfl⟩ | (exfalso; omega)
            · have HL1 := Lib.hid (show f2 = l1 by omega)
              clear hl1
              go_wp2_with fail
              all_goals go_meet
              all_goals first | exact ⟨rfl, HT5.out _ HL1.out _ rfl⟩ | exact ⟨rfl, HT5.out f2 (by have := HL1.out; omega) _ rfl⟩ | (exfalso; omega)
          · have hS : ((0 : Int), (-1 : Int), false, fallTo f4 A 4) = (rc, l1, d1, A1) := HDR.out
            simp only [Prod.mk.injEq] at hS
            obtain ⟨rfl, rfl, rfl, rfl⟩ := hS
            go_wp2_with fail
            refine (rfall_calls f4 B c hbc HR2.out HB2.out (HRD.out.allocS _) (fun ad e h0 => by have := HFAR.out ad e h0; have := HGR.out; omega) HSB.out hux).mono ?_
            rintro e w5 ⟨rfl, h1, h2, h3⟩
            have HT5 := Lib.hid (HT.out w5 h1 h2 h3)
            clear h1 h2 h3
            go_wp2_with fail
            go_meet
            exact ⟨rfl, HT5.out⟩
          · have hS : ((0 : Int), left, down, A) = (rc, l1, d1, A1) := by
              rw [← HDR.out]
              unfold doR
              rw [if_neg n0, if_neg n1, if_neg n2, if_neg n3, if_neg n4, if_neg n5, if_neg n6]
            simp only [Prod.mk.injEq] at hS
            obtain ⟨rfl, rfl, rfl, rfl⟩ := hS
            have HT5 := Lib.hid (HT.out _ HR2.out HB2.out (KeepG.refl _ _))
            go_wp2_with fail
            go_meet
            exact ⟨rfl, HT5.out⟩
        case rest =>
          obtain ⟨rfl, ⟨K1, V1, hI1⟩, hB1⟩ := hcut
          have HI3 := Lib.hid hI1
          have HB3 := Lib.hid hB1
          clear hI1 hB1 HT HR2 HB2 HI2
          have hu1 : usedTo A1 4 ≤ 140737488355328 := by have h : ((usedTo A1 4 : Nat) : Int) ≤ room := HFit2.out.used; omega
          have HU1 := Lib.hid hu1
          have HSB1 : Hid (Sb A1) := Lib.hid HFit2.out.sb
          have HBT : Hid (∀ w', Both (runX wo.heap.size (.cells #[.int .i64 f0, .int .i64 f1, .int .i64 f2, .string f3, .slice B f4.length c] 36) gr (rob room l1 d1 A1)) w w' g room l1 d1 A1 → IsR w w' gr room l1 d1 A1) := Lib.hid (by
            rintro w' ⟨⟨K, V, h⟩, _⟩
            exact ⟨(h.hx gr _ (.inr ⟨rfl, rfl⟩)).1, HGR.out⟩)
          have HCL : Hid (∀ w' l d A, Both (runX wo.heap.size (.cells #[.int .i64 f0, .int .i64 f1, .int .i64 f2, .string f3, .slice B f4.length c] 36) gr (rob room l1 d1 A1)) w w' g room l d A → w'.cell? ⟨gr, 2, none⟩ = some (.bool d1) ∧ w'.cell? ⟨wo.heap.size, 0, none⟩ = some (.int .i64 f0) ∧ w'.cell? ⟨wo.heap.size, 1, none⟩ = some (.int .i64 f1) ∧ w'.cell? ⟨wo.heap.size, 2, none⟩ = some (.int .i64 f2) ∧ w'.cell? ⟨wo.heap.size, 3, none⟩ = some (.string f3) ∧ w'.cell? ⟨wo.heap.size, 4, none⟩ = some (.slice B f4.length c)) := Lib.hid (by
            rintro w' l d A ⟨⟨K, V, h⟩, _⟩
            have h1 := (h.hx gr _ (.inr ⟨rfl, rfl⟩)).1
            have h2 := (h.hx wo.heap.size _ (.inl ⟨rfl, rfl⟩)).1
            exact ⟨(blk_cell h1 2).trans rfl, (blk_cell h2 0).trans rfl, (blk_cell h2 1).trans rfl, (blk_cell h2 2).trans rfl, (blk_cell h2 3).trans rfl, (blk_cell h2 4).trans rfl⟩)
          have HC0 := Lib.hid (HCL.out wc _ _ _ ⟨⟨K1, V1, HI3.out⟩, HB3.out⟩)
          have HDO : Hid (∀ m, Calls Try.prog 16 #[.pointer (some ⟨g, 0, none⟩), .agg #[.int .i64 f0, .int .i64 f1, .int .i64 f2, .string f3, .slice B f4.length c]] (wc.drewN m) fun e w' => e = .returned (.int .i64 rc) ∧ Both (runX wo.heap.size (.cells #[.int .i64 f0, .int .i64 f1, .int .i64 f2, .string f3, .slice B f4.length c] 36) gr (rob room l1 d1 A1)) w w' g room l1 d1 A1) := Lib.hid (by
            intro m
            have h := do_calls (w := wc.drewN m) ⟨f0, f1, f2, f3, f4⟩ B c (HI3.out.move fun _ _ => rfl) (pw_below_drewN HB3.out m) HFit.out (by omega) (by dsimp only; omega) o1 hbc ?_ HFAR.out
            · rw [HDR.out] at h
              exact h
            · exact ReadsInt.drewN (reads_move HRD.out HFAR.out HB.out HB3.out) m)
          have HU : Hid (∀ w', Both (runX wo.heap.size (.cells #[.int .i64 f0, .int .i64 f1, .int .i64 f2, .string f3, .slice B f4.length c] 36) gr (rob room l1 d1 A1)) w w' g room l1 d1 A1 → Calls Try.prog 14 #[.pointer (some ⟨g, 0, none⟩)] w' fun e w'' => e = .returned (.int .i64 (usedTo A1 4 : Int)) ∧ Both (runX wo.heap.size (.cells #[.int .i64 f0, .int .i64 f1, .int .i64 f2, .string f3, .slice B f4.length c] 36) gr (rob room l1 d1 A1)) w w'' g room l1 d1 A1) := Lib.hid (by
            rintro w' ⟨⟨K, V, h⟩, hb⟩
            refine (used_calls h hb (by have := HU1.out; omega)).mono ?_
            rintro e w'' ⟨rfl, ⟨m, rfl⟩⟩
            exact ⟨rfl, ⟨K, V, h.move fun _ _ => rfl⟩, pw_below_drewN hb m⟩)
          have HRU : Hid (∀ w', Both (runX wo.heap.size (.cells #[.int .i64 f0, .int .i64 f1, .int .i64 f2, .string f3, .slice B f4.length c] 36) gr (rob room l1 d1 A1)) w w' g room l1 d1 A1 → Calls Try.prog 26 #[.pointer (some ⟨gr, 0, none⟩)] w' fun e w'' => e = .returned (.int .i64 (usedTo A1 4 : Int)) ∧ Both (runX wo.heap.size (.cells #[.int .i64 f0, .int .i64 f1, .int .i64 f2, .string f3, .slice B f4.length c] 36) gr (rob room l1 d1 A1)) w w'' g room l1 d1 A1) := Lib.hid (by
            intro w' hb
            refine (rused_calls (HBT.out w' hb) HSB1.out (by have := HU1.out; omega)).mono ?_
            obtain ⟨⟨K, V, h⟩, hb⟩ := hb
            rintro e w'' ⟨rfl, ⟨m, rfl⟩⟩
            exact ⟨rfl, ⟨K, V, h.move fun _ _ => rfl⟩, pw_below_drewN hb m⟩)
          have HDN : Hid (∀ w', Both (runX wo.heap.size (.cells #[.int .i64 f0, .int .i64 f1, .int .i64 f2, .string f3, .slice B f4.length c] 36) gr (rob room l1 d1 A1)) w w' g room l1 d1 A1 → Calls Try.prog 12 #[.pointer (some ⟨g, 0, none⟩)] w' fun e w'' => e = .returned (.bool d1) ∧ Both (runX wo.heap.size (.cells #[.int .i64 f0, .int .i64 f1, .int .i64 f2, .string f3, .slice B f4.length c] 36) gr (rob room l1 d1 A1)) w w'' g room l1 d1 A1) := Lib.hid (by
            intro w' hb
            obtain ⟨⟨K, V, h⟩, hb⟩ := hb
            refine (down_calls h).mono ?_
            rintro e w'' ⟨rfl, rfl⟩
            exact ⟨rfl, ⟨K, V, h⟩, hb⟩)
          have HUS : Hid (usedTo A1 4 ≤ 140737488355328) := Lib.hid hu1
          clear hu1
          obtain ⟨us, hus1⟩ : ∃ us, usedTo A1 4 = us := ⟨_, rfl⟩
          rw [hus1] at HU HRU
          clear hus1
          go_wp2_with fail
          go_region_held3 (fun w' => w'.cell? ⟨gr, 2, none⟩ = some (.bool d1) ∧ w'.cell? ⟨wo.heap.size, 0, none⟩ = some (.int .i64 f0) ∧ w'.cell? ⟨wo.heap.size, 1, none⟩ = some (.int .i64 f1) ∧ w'.cell? ⟨wo.heap.size, 2, none⟩ = some (.int .i64 f2) ∧ w'.cell? ⟨wo.heap.size, 3, none⟩ = some (.string f3) ∧ w'.cell? ⟨wo.heap.size, 4, none⟩ = some (.slice B f4.length c)) (first | exact HC0.out | exact HCL.out _ _ _ _ (by assumption) | go_keep)
            (first
              | (go_at_call 16; refine (HDO.out 1).mono ?_; rintro e w6 ⟨rfl, hP6⟩)
              | (go_at_call 14; refine (HU.out _ (by assumption)).mono ?_; rintro e w7 ⟨rfl, hP7⟩)
              | (go_at_call 26; refine (HRU.out _ (by assumption)).mono ?_; rintro e w8 ⟨rfl, hP8⟩)
              | (go_at_call 12; refine (HDN.out _ (by assumption)).mono ?_; rintro e w9 ⟨rfl, hP9⟩))
          have HP9 := Lib.hid hP9
          clear hP6 hP7 hP8 hP9 HDO HU HRU HDN HC0 HI3 HB3 HU1
          go_wp2_with fail
          go_loopg [14] 7 (fun gk v14 wr => ∃ n : Int, -1 ≤ n ∧ n ≤ 5 ∧ v14 = .int .i64 n ∧ Aside0 ((n + 1).toNat + gk = 7) ∧ Aside0 (Both (runX wo.heap.size (.cells #[.int .i64 f0, .int .i64 f1, .int .i64 f2, .string f3, .slice B f4.length c] 36) gr (rob room l1 d1 A1)) w wr g room l1 d1 A1))
          case atStart => exact ⟨-1, by decide, by decide, rfl, ⟨rfl⟩, ⟨HP9.out⟩⟩
          case round =>
            obtain ⟨n, hn0, hn1, rfl, ⟨hgj⟩, ⟨hP⟩⟩ := hrel
            have HGJ := Lib.hid hgj
            have HP := Lib.hid hP
            clear hgj hP HP9
            rcases (show n ≤ 4 ∨ n = 5 by omega) with hn | rfl
            · have hw : IntKind.i64.wrap (n + 1) = n + 1 := by rw [IntKind.wrap_i64]; omega
              go_wp2_with fail
              obtain ⟨⟨K2, V2, hI⟩, hB⟩ := HP.out
              refine (read_calls n hI hB (by omega)).mono ?_
              clear hI hB
              rintro e w10 ⟨rfl, hI, hB⟩
              have HI10 := Lib.hid hI
              have HB10 := Lib.hid hB
              have HP10 : Hid (Both (runX wo.heap.size (.cells #[.int .i64 f0, .int .i64 f1, .int .i64 f2, .string f3, .slice B f4.length c] 36) gr (rob room l1 d1 A1)) w w10 g room l1 d1 A1) := Lib.hid ⟨⟨K2, V2, hI⟩, hB⟩
              clear hI hB
              go_wp2_with fail
              refine (rread_calls n (HBT.out _ HP10.out) HSB1.out HUS.out (by omega)).mono ?_
              rintro e w11 ⟨rfl, ⟨m, rfl⟩⟩
              have HI11 := Lib.hid (HI10.out.move (W1 := w10.drewN m) fun _ _ => rfl)
              have HB11 := Lib.hid (pw_below_drewN HB10.out m)
              have HP11 : Hid (Both (runX wo.heap.size (.cells #[.int .i64 f0, .int .i64 f1, .int .i64 f2, .string f3, .slice B f4.length c] 36) gr (rob room l1 d1 A1)) w (w10.drewN m) g room l1 d1 A1) := Lib.hid ⟨⟨K2, V2, HI11.out⟩, HB11.out⟩
              generalize w10.drewN m = w12 at *
              generalize readR d1 A1 n = rr at *
              obtain ⟨rt, re⟩ := rr
              dsimp only
              clear HI10 HB10 HP10 HP
              go_wp2_with fail
              refine (has_calls n HI11.out).mono ?_
              rintro e w13 ⟨rfl, rfl⟩
              go_wp2_with fail
              refine (rhas_calls n (HBT.out _ HP11.out)).mono ?_
              rintro e w13 ⟨rfl, rfl⟩
              generalize hasR A1 n = hh at *
              go_wp2
              go_roundg (gk - 1)
              case measure => have := HGJ.out; omega
              case rel => exact ⟨n + 1, by omega, by omega, by go_num, ⟨by have := HGJ.out; omega⟩, ⟨HP11.out⟩⟩
            · go_wp2
              go_roundg (gout - 1)
              case measure => have := HG.out; omega
              case rel => exact ⟨i + 1, l1, d1, A1, by omega, by omega, by go_num, ⟨by have := HG.out; omega⟩, ⟨(by
                obtain ⟨⟨K, V, h⟩, hb⟩ := HP.out
                exact ⟨⟨K, V, h.more fun k o hk => h.hx k o (.inr hk)⟩, hb⟩), HFit2.out⟩⟩
      · subst h150
        obtain ⟨ad, B, c, ⟨f0, f1, f2, f3, f4⟩, rfl, hx, hok, k0, k1, k2, k3, k4, hbc, hrd, hfar⟩ := act_at HC.out HB.out Hf.out 150 hlt
        dsimp only at *
        clear hx hok hrd hfar
        replace k0 : wo.cell? ⟨ad.block, ad.off + 750, none⟩ = some (.int .i64 f0) := k0
        replace k1 : wo.cell? ⟨ad.block, ad.off + 750 + 1, none⟩ = some (.int .i64 f1) := k1
        replace k2 : wo.cell? ⟨ad.block, ad.off + 750 + 2, none⟩ = some (.int .i64 f2) := k2
        replace k3 : wo.cell? ⟨ad.block, ad.off + 750 + 3, none⟩ = some (.string f3) := k3
        replace k4 : wo.cell? ⟨ad.block, ad.off + 750 + 4, none⟩ = some (.slice B f4.length c) := k4
        go_wp2_with fail
        go_ret
        exact ⟨rfl, below_alloc' HB.out _⟩
      · subst hlt
        go_wp2_with fail
        go_ret
        exact ⟨rfl, HB.out⟩
theorem walk_DrumRuns {H : Type} {enc : TypeId × Value → H} (W : World) (room : Int) (v0 : Value) (d0 : DataW H) (p0 : List MemPlace)
    (w0 : (Lit.int .i64 room).wf = true) (h0 : DataW.Trod enc Try.prog W 0 (fun _ => true) true 34 v0 d0 p0) {base : Nat} (u0 : Value.okWide Try.prog W .any base 34 v0) (z0 : ∀ n ∈ DataW.weights Try.prog 34 d0, n ≤ reachBytes) :
    Calls Try.prog 5 #[.int .i64 room, v0] W fun e w' => e = .returned (.bool true) ∧ Below W.heap.size W w' := by
  obtain ⟨A, c, l, rfl, hlc, hC, hl, _⟩ := acts_open W v0 d0 p0 h0 u0 z0
  exact runs_calls room (Go.bounds_i64 w0) A c l hlc hl W hC
end Go.Proofs.Ytahfcnbdladfbaa

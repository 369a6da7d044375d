/- The document's Read reads what entry's does. Conditions: those that each theorem names. -/
import Derived.Test.YtblabgdkbcphkaaEo
set_option linter.unusedVariables false
set_option linter.unusedSimpArgs false
set_option linter.constructorNameAsVariable false
namespace Go.Proofs.Ytblabgdkbcphkaa
open Go.RowKit Go.Deep Go.Proofs.YtblabgdkbcphkaaW.PrintWords Go.Proofs.YtblabgdkbcphkaaW.PrintLast Go.Proofs.YtblabgdkbcphkaaW.PrintMore Go.Proofs.Ytblabgdkbcphkaa.PEs Go.Proofs.Ytblabgdkbcphkaa.PRd
structure QSu (w : World) (g b2 b3 : Nat) (Z : Array Value) (s : ByteArray) (er : Int) (Q : Array Value) (W : World) : Prop where
  i : PDr.IsS75 w W g s er
  b : Below w.heap.size w W
  z : W.heap[b2]? = some (.cells Z 30 (0, 0))
  q : W.heap[b3]? = some (.cells Q 30 (0, 0))
section
variable {w W W1 : World} {g b2 b3 : Nat} {Z Q Q1 : Array Value} {s s1 : ByteArray} {er er1 : Int}
theorem QSu.call (h : QSu w g b2 b3 Z s er Q W) (ha : PUt w g b2 b3) (hl : Left2 w W W1 g s1 er1) : QSu w g b2 b3 Z s1 er1 Q W1 := ⟨hl.1, hl.2.1, blk_keep h.z hl.2.2 ha.c, blk_keep h.q hl.2.2 ha.d⟩
theorem QSu.store (h : QSu w g b2 b3 Z s er Q W) (ha : PUt w g b2 b3) (hq : W1.heap[b3]? = some (.cells Q1 30 (0, 0))) (hk : KeepBut W W1 b3 none) (hb : ∀ base w0, base ≤ b3 → Below base w0 W → Below base w0 W1) : QSu w g b2 b3 Z s er Q1 W1 :=
  ⟨⟨blk_keep h.i.1 hk (Ne.symm ha.d), h.i.2⟩, hb _ _ ha.b h.b, blk_keep h.z hk ha.e, hq⟩
theorem QSu.other (h : QSu w g b2 b3 Z s er Q W) {b : Nat} (hk : KeepBut W W1 b none) (hb : ∀ base w0, base ≤ b → Below base w0 W → Below base w0 W1) (h3 : g ≠ b ∧ b2 ≠ b ∧ b3 ≠ b ∧ w.heap.size ≤ b) : QSu w g b2 b3 Z s er Q W1 :=
  ⟨⟨blk_keep h.i.1 hk h3.1, h.i.2⟩, hb _ _ h3.2.2.2 h.b, blk_keep h.z hk h3.2.1, blk_keep h.q hk h3.2.2.1⟩
theorem QSu.alloc (h : QSu w g b2 b3 Z s er Q W) (o : Obj) : QSu w g b2 b3 Z s er Q (W.alloc o) := ⟨h.i.alloc o, below_alloc h.b o, blk_alloc h.z o, blk_alloc h.q o⟩
theorem QSu.grown (h : QSu w g b2 b3 Z s er Q W) {α : Type} {d : Kd α} {e : TypeId} {ok : Nat → Prop} {v : Value} {xs : List α} (hR : d.R e W w.heap.size ok v xs) (he : e ≠ 30) (he2 : e ≠ 75)
    (hg : W.grownBy W1 v.ownBlock) (hb : Below w.heap.size W W1) : QSu w g b2 b3 Z s er Q W1 :=
  ⟨⟨blk_grown h.i.1 hg (Kd.R_ne hR h.i.1 he2), h.i.2⟩, h.b.trans hb, blk_grown h.z hg (Kd.R_ne hR h.z he), blk_grown h.q hg (Kd.R_ne hR h.q he)⟩
theorem QSu.below (h : QSu w g b2 b3 Z s er Q W) (hb : Below W.heap.size W W1) : QSu w g b2 b3 Z s er Q W1 :=
  ⟨h.i.below hb, h.b.trans (hb.mono h.b.size), (hb.block _ (lt_at2 h.z)).trans h.z, (hb.block _ (lt_at2 h.q)).trans h.q⟩
end
set_option maxRecDepth 100000 in
set_option maxHeartbeats 16000000 in
theorem dread_0 (s : ByteArray) (hs : s.size ≤ 9223372036854775807) (w : World) (hk : (rdNum s 0 9).1 = 0) : Calls Try.prog 13 #[.string s] w (ReadP s w) := by
  have HX0 := Lib.hid (heap_alloc_new w (.cells #[(.int .i64 0), (.int .u32 0), (.int .u32 0), (.int .u64 0), (.int .u32 0), (.int .u64 0), (.int .u32 0), (.int .u64 0), (.int .u32 0), (.string ⟨#[]⟩), (.int .u8 0), (.bool false), (.slice none 0 0)] 30))
  have HB0 := Lib.hid (below_alloc' (Below.refl _ w) (.cells #[(.int .i64 0), (.int .u32 0), (.int .u32 0), (.int .u64 0), (.int .u32 0), (.int .u64 0), (.int .u32 0), (.int .u64 0), (.int .u32 0), (.string ⟨#[]⟩), (.int .u8 0), (.bool false), (.slice none 0 0)] 30))
  go_enter Try.func13, Try.ntmps13
  go_wp2_with ((with_reducible refine gate_dst (N := 11) rfl ?_); refine box_event ?hg (N := 11) ?hd (cs := #[.string s, .int .i64 0]) (t := 75) ?hr ?_; (case hd => rfl); (case hg => rfl); (case hr => kernel_rfl); intro g hgg w1 hbox hbb; have HX1 := Lib.hid ((hbb.block _ (lt_at2 HX0.out)).trans HX0.out); have HB1 := Lib.hid (HB0.out.trans (hbb.mono HB0.out.size)); have HN2 : Hid (w.heap.size ≠ g) := Lib.hid (by have := lt_at2 HX0.out; omega); have HI1 : Hid (PDr.IsS75 w w1 g s 0) := Lib.hid ⟨hbox, by have := lt_at2 HX0.out; omega⟩; clear hgg hbox hbb HX0 HB0)
  refine (dnumber 9 (by decide) HI1.out HB1.out hs).mono ?_
  rintro e w2 ⟨rfl, hl⟩
  have za := rdNum_facts s 0 9 (by decide)
  obtain ⟨a, ha⟩ : ∃ x, x = rdNum s 0 9 := ⟨_, rfl⟩
  rw [← ha] at hl za hk ⊢
  have EA := Lib.hid ha
  have zaz := za.2.2
  rw [hk]
  have HK0 := Lib.hid hk
  clear ha hk za
  have h2 := blk_keep HX1.out hl.2.2 HN2.out
  have h3 := heap_alloc_new w2 (.cells #[(.int .i64 0), (.int .u32 0), (.int .u32 0), (.int .u64 0), (.int .u32 0), (.int .u64 0), (.int .u32 0), (.int .u64 0), (.int .u32 0), (.string ⟨#[]⟩), (.int .u8 0), (.bool false), (.slice none 0 0)] 30)
  have hg1 := lt_at2 hl.1.1
  have h22 := lt_at2 h2
  have HA : Hid (PUt w g w.heap.size w2.heap.size) := Lib.hid ⟨Nat.le_refl _, by have := hl.2.1.size; omega, HN2.out, by omega, by omega⟩
  have HS1 : Hid (QSu w g w.heap.size w2.heap.size #[(.int .i64 0), (.int .u32 0), (.int .u32 0), (.int .u64 0), (.int .u32 0), (.int .u64 0), (.int .u32 0), (.int .u64 0), (.int .u32 0), (.string ⟨#[]⟩), (.int .u8 0), (.bool false), (.slice none 0 0)] a.2.1 a.2.2 #[(.int .i64 0), (.int .u32 0), (.int .u32 0), (.int .u64 0), (.int .u32 0), (.int .u64 0), (.int .u32 0), (.int .u64 0), (.int .u32 0), (.string ⟨#[]⟩), (.int .u8 0), (.bool false), (.slice none 0 0)] (w2.alloc (.cells #[(.int .i64 0), (.int .u32 0), (.int .u32 0), (.int .u64 0), (.int .u32 0), (.int .u64 0), (.int .u32 0), (.int .u64 0), (.int .u32 0), (.string ⟨#[]⟩), (.int .u8 0), (.bool false), (.slice none 0 0)] 30))) := Lib.hid ⟨hl.1.alloc _, below_alloc' hl.2.1 _, blk_alloc h2 _, h3⟩
  clear hl h2 h3 hg1 h22 HX1 HN2 HI1 HB1
  go_wp2_with ((with_reducible refine gate_store (t := 30) (p := 5) (v := .tmp 15) rfl ?_); refine store_ev2 (P := Try.prog) rfl 30 (.tmp 5) (.tmp 15) rfl rfl w2.heap.size 0 (.agg #[(.int .i64 0), (.int .u32 0), (.int .u32 0), (.int .u64 0), (.int .u32 0), (.int .u64 0), (.int .u32 0), (.int .u64 0), (.int .u32 0), (.string ⟨#[]⟩), (.int .u8 0), (.bool false), (.slice none 0 0)]) #[(.int .i64 0), (.int .u32 0), (.int .u32 0), (.int .u64 0), (.int .u32 0), (.int .u64 0), (.int .u32 0), (.int .u64 0), (.int .u32 0), (.string ⟨#[]⟩), (.int .u8 0), (.bool false), (.slice none 0 0)] rfl rfl rfl 30 _ #[(.int .i64 0), (.int .u32 0), (.int .u32 0), (.int .u64 0), (.int .u32 0), (.int .u64 0), (.int .u32 0), (.int .u64 0), (.int .u32 0), (.string ⟨#[]⟩), (.int .u8 0), (.bool false), (.slice none 0 0)] HS1.out.q (by kernel_rfl) (by show 0 + 13 ≤ 13; decide) (by kernel_rfl) (by kernel_rfl) ?_; intro w2s hq hk hb; have HS2 := Lib.hid (HS1.out.store HA.out hq hk hb); have x0 := (blk_cell HS2.out.q 0).trans (show _ = some (.int .i64 0) from rfl); clear hq hk hb)
  clear HS1
  generalize w2.heap.size = b3 at *
  clear x0
  refine (dnumber 4294967295 (by decide) HS2.out.i HS2.out.b (by omega)).mono ?_
  rintro e w3c ⟨rfl, hl⟩
  have zb := rdNum_facts a.2.1 a.2.2 4294967295 (by decide)
  obtain ⟨b, hb⟩ : ∃ x, x = rdNum a.2.1 a.2.2 4294967295 := ⟨_, rfl⟩
  rw [← hb] at hl zb ⊢
  have EB := Lib.hid hb
  clear hb
  have HS3 := Lib.hid (HS2.out.call HA.out hl)
  clear hl HS2 
  have x0 := (blk_cell HS3.out.q 0).trans (show _ = some (.int .i64 0) from rfl)
  have hwb : b.1 % 4294967296 = b.1 := Int.emod_eq_of_lt zb.1 (by omega)
  go_wp2_with ((with_reducible refine gate_store (t := 22) (p := 28) (v := .tmp 26) rfl ?_); refine store_ev2 (P := Try.prog) rfl 22 (.tmp 28) (.tmp 26) rfl rfl b3 1 (.int .u32 b.1) #[(.int .u32 b.1)] rfl rfl rfl 30 _ #[(.int .i64 0), (.int .u32 b.1), (.int .u32 0), (.int .u64 0), (.int .u32 0), (.int .u64 0), (.int .u32 0), (.int .u64 0), (.int .u32 0), (.string ⟨#[]⟩), (.int .u8 0), (.bool false), (.slice none 0 0)] HS3.out.q (by kernel_rfl) (by show 1 + 1 ≤ 13; decide) (by kernel_rfl) (by kernel_rfl) ?_; intro w4s hq hk hb; clear x0; have HS4 := Lib.hid (HS3.out.store HA.out hq hk hb); have x0 := (blk_cell HS4.out.q 0).trans (show _ = some (.int .i64 0) from rfl); clear hq hk hb)
  clear HS3 
  clear x0
  refine (dnumber 4294967295 (by decide) HS4.out.i HS4.out.b (by omega)).mono ?_
  rintro e w5c ⟨rfl, hl⟩
  have zb0 := rdNum_facts b.2.1 b.2.2 4294967295 (by decide)
  obtain ⟨b0, hb0⟩ : ∃ x, x = rdNum b.2.1 b.2.2 4294967295 := ⟨_, rfl⟩
  rw [← hb0] at hl zb0 ⊢
  have EB0 := Lib.hid hb0
  clear hb0
  have HS5 := Lib.hid (HS4.out.call HA.out hl)
  clear hl HS4 
  have x0 := (blk_cell HS5.out.q 0).trans (show _ = some (.int .i64 0) from rfl)
  have hwb0 : b0.1 % 4294967296 = b0.1 := Int.emod_eq_of_lt zb0.1 (by omega)
  go_wp2_with ((with_reducible refine gate_store (t := 22) (p := 33) (v := .tmp 31) rfl ?_); refine store_ev2 (P := Try.prog) rfl 22 (.tmp 33) (.tmp 31) rfl rfl b3 2 (.int .u32 b0.1) #[(.int .u32 b0.1)] rfl rfl rfl 30 _ #[(.int .i64 0), (.int .u32 b.1), (.int .u32 b0.1), (.int .u64 0), (.int .u32 0), (.int .u64 0), (.int .u32 0), (.int .u64 0), (.int .u32 0), (.string ⟨#[]⟩), (.int .u8 0), (.bool false), (.slice none 0 0)] HS5.out.q (by kernel_rfl) (by show 2 + 1 ≤ 13; decide) (by kernel_rfl) (by kernel_rfl) ?_; intro w6s hq hk hb; clear x0; have HS6 := Lib.hid (HS5.out.store HA.out hq hk hb); have x0 := (blk_cell HS6.out.q 0).trans (show _ = some (.int .i64 0) from rfl); clear hq hk hb)
  clear HS5 
  go_loop [7] (fun i => i = .int .i64 0) (fun _ => 1)
  case atStart => rfl
  case round =>
  subst hrel
  go_wp2_with fail
  clear x0
  refine (dend HS6.out.i HS6.out.b).mono ?_
  rintro e w7c ⟨rfl, hl⟩
  have HS7 := Lib.hid (HS6.out.call HA.out hl)
  clear hl HS6 
  obtain ⟨en, hen⟩ : ∃ en, en = rdEnd b0.2.1 b0.2.2 := ⟨_, rfl⟩
  rw [← hen]
  have HEN := Lib.hid hen
  clear hen
  have HRD : Hid (readE s = if en = 0 then (if rightE ⟨0, b.1, b0.1, 0, 0, 0, 0, 0, 0, ⟨#[]⟩, 0, false, []⟩ = true then (⟨0, b.1, b0.1, 0, 0, 0, 0, 0, 0, ⟨#[]⟩, 0, false, []⟩, 0) else (zE, 2)) else (zE, 2)) := Lib.hid (by
    have hp : rdE s = (⟨0, b.1, b0.1, 0, 0, 0, 0, 0, 0, ⟨#[]⟩, 0, false, []⟩, b0.2.1, b0.2.2) := by
      unfold rdE rdTail orX rdX
      rw [← EA.out, HK0.out]
      simp [hB, hS, hM, hA, hW, hT, hD, lstR, ← EB.out, ← EB0.out]
    unfold readE
    rw [hp, ← HEN.out])
  have HOK : Hid (EOk ⟨0, b.1, b0.1, 0, 0, 0, 0, 0, 0, ⟨#[]⟩, 0, false, []⟩) := Lib.hid (by
    have hp : (rdTail 0 a.2.1 a.2.2).1 = ⟨0, b.1, b0.1, 0, 0, 0, 0, 0, 0, ⟨#[]⟩, 0, false, []⟩ := by
      unfold rdTail orX rdX
      simp [hB, hS, hM, hA, hW, hT, hD, lstR, ← EB.out, ← EB0.out]
    rw [← hp]
    exact tailOk _ (by decide) _ _)
  rcases (show en = 0 ∨ en ≠ 0 from by omega) with he | he
  · subst he
    have HCC : Hid (EnIn w7c ⟨0, b.1, b0.1, 0, 0, 0, 0, 0, 0, ⟨#[]⟩, 0, false, []⟩ none 0) := Lib.hid ⟨Kd.C_nil _ _, Nat.le_refl _⟩
    cases hri : rightE ⟨0, b.1, b0.1, 0, 0, 0, 0, 0, 0, ⟨#[]⟩, 0, false, []⟩ with
    | false =>
      have HR2 : Hid (readE s = (zE, 2)) := Lib.hid (by rw [HRD.out, if_pos rfl, if_neg (by rw [hri]; decide)])
      have HRI := Lib.hid ((rright_calls ⟨0, b.1, b0.1, 0, 0, 0, 0, 0, 0, ⟨#[]⟩, 0, false, []⟩ none 0 w7c HCC.out HOK.out.ws).mono fun rr w' (h : rr = .returned (.bool (rightE ⟨0, b.1, b0.1, 0, 0, 0, 0, 0, 0, ⟨#[]⟩, 0, false, []⟩)) ∧ Below w7c.heap.size w7c w') => (⟨by rw [h.1, hri], h.2⟩ : rr = .returned (.bool false) ∧ Below w7c.heap.size w7c w'))
      have HRV := Lib.hid hri
      clear hri
      go_wp2_with (first | ((with_reducible refine gate_dst (N := 123) rfl ?_); refine wpList_load_row rfl 30 (.tmp 5) rfl b3 rfl 30 _ (0, 0) _ HS7.out.q Try.underlying30 rfl (by kernel_rfl) ?_) | ((with_reducible refine gate_dst (N := 123) rfl ?_); refine gate_guard (by rfl) ?_; refine wpList_load_row rfl 30 (.tmp 5) rfl b3 rfl 30 _ (0, 0) _ HS7.out.q Try.underlying30 rfl (by kernel_rfl) ?_))
      refine HRI.out.mono ?_
      rintro e wz ⟨rfl, hBr⟩
      have HSr := Lib.hid (HS7.out.below hBr)
      clear hBr
      go_wp2_with ((with_reducible refine gate_store (t := 30) (p := 2) (v := .tmp 127) rfl ?_); refine store_ev2 (P := Try.prog) rfl 30 (.tmp 2) (.tmp 127) rfl rfl w.heap.size 0 (.agg #[(.int .i64 0), (.int .u32 0), (.int .u32 0), (.int .u64 0), (.int .u32 0), (.int .u64 0), (.int .u32 0), (.int .u64 0), (.int .u32 0), (.string ⟨#[]⟩), (.int .u8 0), (.bool false), (.slice none 0 0)]) #[(.int .i64 0), (.int .u32 0), (.int .u32 0), (.int .u64 0), (.int .u32 0), (.int .u64 0), (.int .u32 0), (.int .u64 0), (.int .u32 0), (.string ⟨#[]⟩), (.int .u8 0), (.bool false), (.slice none 0 0)] rfl rfl rfl 30 _ #[(.int .i64 0), (.int .u32 0), (.int .u32 0), (.int .u64 0), (.int .u32 0), (.int .u64 0), (.int .u32 0), (.int .u64 0), (.int .u32 0), (.string ⟨#[]⟩), (.int .u8 0), (.bool false), (.slice none 0 0)] HSr.out.z (by kernel_rfl) (by show 0 + 13 ≤ 13; decide) (by kernel_rfl) (by kernel_rfl) ?_; intro w19 hq hk hb; have HZ9 := Lib.hid hq; have HB9 := Lib.hid (hb _ _ HA.out.a HSr.out.b); clear hq hk hb)
      refine bodyPost_ret (results_ct rfl _ _ w.heap.size 30 _ (0, 0) _ rfl HZ9.out Try.underlying30 rfl (by kernel_rfl)) rfl ?_
      exact ⟨none, 0, by rw [HR2.out]; rfl, by rw [HR2.out]; exact Kd.C_nil _ _, by rw [HR2.out]; exact Nat.le_refl _, HB9.out⟩
    | true =>
      have HR2 : Hid (readE s = (⟨0, b.1, b0.1, 0, 0, 0, 0, 0, 0, ⟨#[]⟩, 0, false, []⟩, 0)) := Lib.hid (by rw [HRD.out, if_pos rfl, if_pos hri])
      have HRI := Lib.hid ((rright_calls ⟨0, b.1, b0.1, 0, 0, 0, 0, 0, 0, ⟨#[]⟩, 0, false, []⟩ none 0 w7c HCC.out HOK.out.ws).mono fun rr w' (h : rr = .returned (.bool (rightE ⟨0, b.1, b0.1, 0, 0, 0, 0, 0, 0, ⟨#[]⟩, 0, false, []⟩)) ∧ Below w7c.heap.size w7c w') => (⟨by rw [h.1, hri], h.2⟩ : rr = .returned (.bool true) ∧ Below w7c.heap.size w7c w'))
      have HRV := Lib.hid hri
      clear hri
      go_wp2_with (first | ((with_reducible refine gate_dst (N := 123) rfl ?_); refine wpList_load_row rfl 30 (.tmp 5) rfl b3 rfl 30 _ (0, 0) _ HS7.out.q Try.underlying30 rfl (by kernel_rfl) ?_) | ((with_reducible refine gate_dst (N := 123) rfl ?_); refine gate_guard (by rfl) ?_; refine wpList_load_row rfl 30 (.tmp 5) rfl b3 rfl 30 _ (0, 0) _ HS7.out.q Try.underlying30 rfl (by kernel_rfl) ?_))
      refine HRI.out.mono ?_
      rintro e wz ⟨rfl, hBr⟩
      have HSr := Lib.hid (HS7.out.below hBr)
      clear hBr
      go_wp2_with (first | ((with_reducible refine gate_dst (N := 128) rfl ?_); refine wpList_load_row rfl 30 (.tmp 5) rfl b3 rfl 30 _ (0, 0) _ HSr.out.q Try.underlying30 rfl (by kernel_rfl) ?_) | ((with_reducible refine gate_store (t := 30) (p := 2) (v := .tmp 128) rfl ?_); refine store_ev2 (P := Try.prog) rfl 30 (.tmp 2) (.tmp 128) rfl rfl w.heap.size 0 (.agg #[(.int .i64 0), (.int .u32 b.1), (.int .u32 b0.1), (.int .u64 0), (.int .u32 0), (.int .u64 0), (.int .u32 0), (.int .u64 0), (.int .u32 0), (.string ⟨#[]⟩), (.int .u8 0), (.bool false), (.slice none 0 0)]) #[(.int .i64 0), (.int .u32 b.1), (.int .u32 b0.1), (.int .u64 0), (.int .u32 0), (.int .u64 0), (.int .u32 0), (.int .u64 0), (.int .u32 0), (.string ⟨#[]⟩), (.int .u8 0), (.bool false), (.slice none 0 0)] rfl rfl rfl 30 _ #[(.int .i64 0), (.int .u32 b.1), (.int .u32 b0.1), (.int .u64 0), (.int .u32 0), (.int .u64 0), (.int .u32 0), (.int .u64 0), (.int .u32 0), (.string ⟨#[]⟩), (.int .u8 0), (.bool false), (.slice none 0 0)] HSr.out.z (by kernel_rfl) (by show 0 + 13 ≤ 13; decide) (by kernel_rfl) (by kernel_rfl) ?_; intro w19 hq hk hb; have HZ9 := Lib.hid hq; have HB9 := Lib.hid (hb _ _ HA.out.a HSr.out.b); clear hq hk hb))
      refine bodyPost_ret (results_ct rfl _ _ w.heap.size 30 _ (0, 0) _ rfl HZ9.out Try.underlying30 rfl (by kernel_rfl)) rfl ?_
      exact ⟨none, 0, by rw [HR2.out]; rfl, by rw [HR2.out]; exact Kd.C_nil _ _, by rw [HR2.out]; exact Nat.le_refl _, HB9.out⟩
  · have HR2 : Hid (readE s = (zE, 2)) := Lib.hid (by rw [HRD.out, if_neg he])
    have heb : (en == 0) = false := by simpa using he
    have heb2 : (en != 0) = true := by simpa using he
    go_wp2_with ((with_reducible refine gate_store (t := 30) (p := 2) (v := .tmp 127) rfl ?_); refine store_ev2 (P := Try.prog) rfl 30 (.tmp 2) (.tmp 127) rfl rfl w.heap.size 0 (.agg #[(.int .i64 0), (.int .u32 0), (.int .u32 0), (.int .u64 0), (.int .u32 0), (.int .u64 0), (.int .u32 0), (.int .u64 0), (.int .u32 0), (.string ⟨#[]⟩), (.int .u8 0), (.bool false), (.slice none 0 0)]) #[(.int .i64 0), (.int .u32 0), (.int .u32 0), (.int .u64 0), (.int .u32 0), (.int .u64 0), (.int .u32 0), (.int .u64 0), (.int .u32 0), (.string ⟨#[]⟩), (.int .u8 0), (.bool false), (.slice none 0 0)] rfl rfl rfl 30 _ #[(.int .i64 0), (.int .u32 0), (.int .u32 0), (.int .u64 0), (.int .u32 0), (.int .u64 0), (.int .u32 0), (.int .u64 0), (.int .u32 0), (.string ⟨#[]⟩), (.int .u8 0), (.bool false), (.slice none 0 0)] HS7.out.z (by kernel_rfl) (by show 0 + 13 ≤ 13; decide) (by kernel_rfl) (by kernel_rfl) ?_; intro w19 hq hk hb; have HZ9 := Lib.hid hq; have HB9 := Lib.hid (hb _ _ HA.out.a HS7.out.b); clear hq hk hb)
    refine bodyPost_ret (results_ct rfl _ _ w.heap.size 30 _ (0, 0) _ rfl HZ9.out Try.underlying30 rfl (by kernel_rfl)) rfl ?_
    exact ⟨none, 0, by rw [HR2.out]; rfl, by rw [HR2.out]; exact Kd.C_nil _ _, by rw [HR2.out]; exact Nat.le_refl _, HB9.out⟩
set_option maxRecDepth 100000 in
set_option maxHeartbeats 16000000 in
theorem dread_1 (s : ByteArray) (hs : s.size ≤ 9223372036854775807) (w : World) (hk : (rdNum s 0 9).1 = 1) : Calls Try.prog 13 #[.string s] w (ReadP s w) := by
  have HX0 := Lib.hid (heap_alloc_new w (.cells #[(.int .i64 0), (.int .u32 0), (.int .u32 0), (.int .u64 0), (.int .u32 0), (.int .u64 0), (.int .u32 0), (.int .u64 0), (.int .u32 0), (.string ⟨#[]⟩), (.int .u8 0), (.bool false), (.slice none 0 0)] 30))
  have HB0 := Lib.hid (below_alloc' (Below.refl _ w) (.cells #[(.int .i64 0), (.int .u32 0), (.int .u32 0), (.int .u64 0), (.int .u32 0), (.int .u64 0), (.int .u32 0), (.int .u64 0), (.int .u32 0), (.string ⟨#[]⟩), (.int .u8 0), (.bool false), (.slice none 0 0)] 30))
  go_enter Try.func13, Try.ntmps13
  go_wp2_with ((with_reducible refine gate_dst (N := 11) rfl ?_); refine box_event ?hg (N := 11) ?hd (cs := #[.string s, .int .i64 0]) (t := 75) ?hr ?_; (case hd => rfl); (case hg => rfl); (case hr => kernel_rfl); intro g hgg w1 hbox hbb; have HX1 := Lib.hid ((hbb.block _ (lt_at2 HX0.out)).trans HX0.out); have HB1 := Lib.hid (HB0.out.trans (hbb.mono HB0.out.size)); have HN2 : Hid (w.heap.size ≠ g) := Lib.hid (by have := lt_at2 HX0.out; omega); have HI1 : Hid (PDr.IsS75 w w1 g s 0) := Lib.hid ⟨hbox, by have := lt_at2 HX0.out; omega⟩; clear hgg hbox hbb HX0 HB0)
  refine (dnumber 9 (by decide) HI1.out HB1.out hs).mono ?_
  rintro e w2 ⟨rfl, hl⟩
  have za := rdNum_facts s 0 9 (by decide)
  obtain ⟨a, ha⟩ : ∃ x, x = rdNum s 0 9 := ⟨_, rfl⟩
  rw [← ha] at hl za hk ⊢
  have EA := Lib.hid ha
  have zaz := za.2.2
  rw [hk]
  have HK0 := Lib.hid hk
  clear ha hk za
  have h2 := blk_keep HX1.out hl.2.2 HN2.out
  have h3 := heap_alloc_new w2 (.cells #[(.int .i64 0), (.int .u32 0), (.int .u32 0), (.int .u64 0), (.int .u32 0), (.int .u64 0), (.int .u32 0), (.int .u64 0), (.int .u32 0), (.string ⟨#[]⟩), (.int .u8 0), (.bool false), (.slice none 0 0)] 30)
  have hg1 := lt_at2 hl.1.1
  have h22 := lt_at2 h2
  have HA : Hid (PUt w g w.heap.size w2.heap.size) := Lib.hid ⟨Nat.le_refl _, by have := hl.2.1.size; omega, HN2.out, by omega, by omega⟩
  have HS1 : Hid (QSu w g w.heap.size w2.heap.size #[(.int .i64 0), (.int .u32 0), (.int .u32 0), (.int .u64 0), (.int .u32 0), (.int .u64 0), (.int .u32 0), (.int .u64 0), (.int .u32 0), (.string ⟨#[]⟩), (.int .u8 0), (.bool false), (.slice none 0 0)] a.2.1 a.2.2 #[(.int .i64 0), (.int .u32 0), (.int .u32 0), (.int .u64 0), (.int .u32 0), (.int .u64 0), (.int .u32 0), (.int .u64 0), (.int .u32 0), (.string ⟨#[]⟩), (.int .u8 0), (.bool false), (.slice none 0 0)] (w2.alloc (.cells #[(.int .i64 0), (.int .u32 0), (.int .u32 0), (.int .u64 0), (.int .u32 0), (.int .u64 0), (.int .u32 0), (.int .u64 0), (.int .u32 0), (.string ⟨#[]⟩), (.int .u8 0), (.bool false), (.slice none 0 0)] 30))) := Lib.hid ⟨hl.1.alloc _, below_alloc' hl.2.1 _, blk_alloc h2 _, h3⟩
  clear hl h2 h3 hg1 h22 HX1 HN2 HI1 HB1
  go_wp2_with ((with_reducible refine gate_store (t := 30) (p := 5) (v := .tmp 15) rfl ?_); refine store_ev2 (P := Try.prog) rfl 30 (.tmp 5) (.tmp 15) rfl rfl w2.heap.size 0 (.agg #[(.int .i64 1), (.int .u32 0), (.int .u32 0), (.int .u64 0), (.int .u32 0), (.int .u64 0), (.int .u32 0), (.int .u64 0), (.int .u32 0), (.string ⟨#[]⟩), (.int .u8 0), (.bool false), (.slice none 0 0)]) #[(.int .i64 1), (.int .u32 0), (.int .u32 0), (.int .u64 0), (.int .u32 0), (.int .u64 0), (.int .u32 0), (.int .u64 0), (.int .u32 0), (.string ⟨#[]⟩), (.int .u8 0), (.bool false), (.slice none 0 0)] rfl rfl rfl 30 _ #[(.int .i64 1), (.int .u32 0), (.int .u32 0), (.int .u64 0), (.int .u32 0), (.int .u64 0), (.int .u32 0), (.int .u64 0), (.int .u32 0), (.string ⟨#[]⟩), (.int .u8 0), (.bool false), (.slice none 0 0)] HS1.out.q (by kernel_rfl) (by show 0 + 13 ≤ 13; decide) (by kernel_rfl) (by kernel_rfl) ?_; intro w2s hq hk hb; have HS2 := Lib.hid (HS1.out.store HA.out hq hk hb); have x0 := (blk_cell HS2.out.q 0).trans (show _ = some (.int .i64 1) from rfl); clear hq hk hb)
  clear HS1
  generalize w2.heap.size = b3 at *
  clear x0
  refine (dstamp HS2.out.i HS2.out.b (by omega)).mono ?_
  rintro e w3c ⟨rfl, hl⟩
  have zf := stamp_sz a.2.1 a.2.2
  obtain ⟨f, hf⟩ : ∃ x, x = rdStamp a.2.1 a.2.2 := ⟨_, rfl⟩
  rw [← hf] at hl zf ⊢
  have EF := Lib.hid hf
  clear hf
  have HS3 := Lib.hid (HS2.out.call HA.out hl)
  clear hl HS2 
  have x0 := (blk_cell HS3.out.q 0).trans (show _ = some (.int .i64 1) from rfl)
  go_wp2_with ((with_reducible refine gate_store (t := 27) (p := 75) (v := .tmp 74) rfl ?_); refine store_ev2 (P := Try.prog) rfl 27 (.tmp 75) (.tmp 74) rfl rfl b3 5 (.agg #[.int .u64 f.1, .int .u32 f.2.1]) #[(.int .u64 f.1), (.int .u32 f.2.1)] rfl rfl rfl 30 _ #[(.int .i64 1), (.int .u32 0), (.int .u32 0), (.int .u64 0), (.int .u32 0), (.int .u64 f.1), (.int .u32 f.2.1), (.int .u64 0), (.int .u32 0), (.string ⟨#[]⟩), (.int .u8 0), (.bool false), (.slice none 0 0)] HS3.out.q (by kernel_rfl) (by show 5 + 2 ≤ 13; decide) (by kernel_rfl) (by kernel_rfl) ?_; intro w4s hq hk hb; clear x0; have HS4 := Lib.hid (HS3.out.store HA.out hq hk hb); have x0 := (blk_cell HS4.out.q 0).trans (show _ = some (.int .i64 1) from rfl); clear hq hk hb)
  clear HS3 
  go_loop [7] (fun i => i = .int .i64 0) (fun _ => 1)
  case atStart => rfl
  case round =>
  subst hrel
  go_wp2_with fail
  clear x0
  refine (dend HS4.out.i HS4.out.b).mono ?_
  rintro e w5c ⟨rfl, hl⟩
  have HS5 := Lib.hid (HS4.out.call HA.out hl)
  clear hl HS4 
  obtain ⟨en, hen⟩ : ∃ en, en = rdEnd f.2.2.1 f.2.2.2 := ⟨_, rfl⟩
  rw [← hen]
  have HEN := Lib.hid hen
  clear hen
  have HRD : Hid (readE s = if en = 0 then (if rightE ⟨1, 0, 0, 0, 0, f.1, f.2.1, 0, 0, ⟨#[]⟩, 0, false, []⟩ = true then (⟨1, 0, 0, 0, 0, f.1, f.2.1, 0, 0, ⟨#[]⟩, 0, false, []⟩, 0) else (zE, 2)) else (zE, 2)) := Lib.hid (by
    have hp : rdE s = (⟨1, 0, 0, 0, 0, f.1, f.2.1, 0, 0, ⟨#[]⟩, 0, false, []⟩, f.2.2.1, f.2.2.2) := by
      unfold rdE rdTail orX rdX
      rw [← EA.out, HK0.out]
      simp [hB, hS, hM, hA, hW, hT, hD, lstR, ← EF.out]
    unfold readE
    rw [hp, ← HEN.out])
  have HOK : Hid (EOk ⟨1, 0, 0, 0, 0, f.1, f.2.1, 0, 0, ⟨#[]⟩, 0, false, []⟩) := Lib.hid (by
    have hp : (rdTail 1 a.2.1 a.2.2).1 = ⟨1, 0, 0, 0, 0, f.1, f.2.1, 0, 0, ⟨#[]⟩, 0, false, []⟩ := by
      unfold rdTail orX rdX
      simp [hB, hS, hM, hA, hW, hT, hD, lstR, ← EF.out]
    rw [← hp]
    exact tailOk _ (by decide) _ _)
  rcases (show en = 0 ∨ en ≠ 0 from by omega) with he | he
  · subst he
    have HCC : Hid (EnIn w5c ⟨1, 0, 0, 0, 0, f.1, f.2.1, 0, 0, ⟨#[]⟩, 0, false, []⟩ none 0) := Lib.hid ⟨Kd.C_nil _ _, Nat.le_refl _⟩
    cases hri : rightE ⟨1, 0, 0, 0, 0, f.1, f.2.1, 0, 0, ⟨#[]⟩, 0, false, []⟩ with
    | false =>
      have HR2 : Hid (readE s = (zE, 2)) := Lib.hid (by rw [HRD.out, if_pos rfl, if_neg (by rw [hri]; decide)])
      have HRI := Lib.hid ((rright_calls ⟨1, 0, 0, 0, 0, f.1, f.2.1, 0, 0, ⟨#[]⟩, 0, false, []⟩ none 0 w5c HCC.out HOK.out.ws).mono fun rr w' (h : rr = .returned (.bool (rightE ⟨1, 0, 0, 0, 0, f.1, f.2.1, 0, 0, ⟨#[]⟩, 0, false, []⟩)) ∧ Below w5c.heap.size w5c w') => (⟨by rw [h.1, hri], h.2⟩ : rr = .returned (.bool false) ∧ Below w5c.heap.size w5c w'))
      have HRV := Lib.hid hri
      clear hri
      go_wp2_with (first | ((with_reducible refine gate_dst (N := 123) rfl ?_); refine wpList_load_row rfl 30 (.tmp 5) rfl b3 rfl 30 _ (0, 0) _ HS5.out.q Try.underlying30 rfl (by kernel_rfl) ?_) | ((with_reducible refine gate_dst (N := 123) rfl ?_); refine gate_guard (by rfl) ?_; refine wpList_load_row rfl 30 (.tmp 5) rfl b3 rfl 30 _ (0, 0) _ HS5.out.q Try.underlying30 rfl (by kernel_rfl) ?_))
      refine HRI.out.mono ?_
      rintro e wz ⟨rfl, hBr⟩
      have HSr := Lib.hid (HS5.out.below hBr)
      clear hBr
      go_wp2_with ((with_reducible refine gate_store (t := 30) (p := 2) (v := .tmp 127) rfl ?_); refine store_ev2 (P := Try.prog) rfl 30 (.tmp 2) (.tmp 127) rfl rfl w.heap.size 0 (.agg #[(.int .i64 0), (.int .u32 0), (.int .u32 0), (.int .u64 0), (.int .u32 0), (.int .u64 0), (.int .u32 0), (.int .u64 0), (.int .u32 0), (.string ⟨#[]⟩), (.int .u8 0), (.bool false), (.slice none 0 0)]) #[(.int .i64 0), (.int .u32 0), (.int .u32 0), (.int .u64 0), (.int .u32 0), (.int .u64 0), (.int .u32 0), (.int .u64 0), (.int .u32 0), (.string ⟨#[]⟩), (.int .u8 0), (.bool false), (.slice none 0 0)] rfl rfl rfl 30 _ #[(.int .i64 0), (.int .u32 0), (.int .u32 0), (.int .u64 0), (.int .u32 0), (.int .u64 0), (.int .u32 0), (.int .u64 0), (.int .u32 0), (.string ⟨#[]⟩), (.int .u8 0), (.bool false), (.slice none 0 0)] HSr.out.z (by kernel_rfl) (by show 0 + 13 ≤ 13; decide) (by kernel_rfl) (by kernel_rfl) ?_; intro w19 hq hk hb; have HZ9 := Lib.hid hq; have HB9 := Lib.hid (hb _ _ HA.out.a HSr.out.b); clear hq hk hb)
      refine bodyPost_ret (results_ct rfl _ _ w.heap.size 30 _ (0, 0) _ rfl HZ9.out Try.underlying30 rfl (by kernel_rfl)) rfl ?_
      exact ⟨none, 0, by rw [HR2.out]; rfl, by rw [HR2.out]; exact Kd.C_nil _ _, by rw [HR2.out]; exact Nat.le_refl _, HB9.out⟩
    | true =>
      have HR2 : Hid (readE s = (⟨1, 0, 0, 0, 0, f.1, f.2.1, 0, 0, ⟨#[]⟩, 0, false, []⟩, 0)) := Lib.hid (by rw [HRD.out, if_pos rfl, if_pos hri])
      have HRI := Lib.hid ((rright_calls ⟨1, 0, 0, 0, 0, f.1, f.2.1, 0, 0, ⟨#[]⟩, 0, false, []⟩ none 0 w5c HCC.out HOK.out.ws).mono fun rr w' (h : rr = .returned (.bool (rightE ⟨1, 0, 0, 0, 0, f.1, f.2.1, 0, 0, ⟨#[]⟩, 0, false, []⟩)) ∧ Below w5c.heap.size w5c w') => (⟨by rw [h.1, hri], h.2⟩ : rr = .returned (.bool true) ∧ Below w5c.heap.size w5c w'))
      have HRV := Lib.hid hri
      clear hri
      go_wp2_with (first | ((with_reducible refine gate_dst (N := 123) rfl ?_); refine wpList_load_row rfl 30 (.tmp 5) rfl b3 rfl 30 _ (0, 0) _ HS5.out.q Try.underlying30 rfl (by kernel_rfl) ?_) | ((with_reducible refine gate_dst (N := 123) rfl ?_); refine gate_guard (by rfl) ?_; refine wpList_load_row rfl 30 (.tmp 5) rfl b3 rfl 30 _ (0, 0) _ HS5.out.q Try.underlying30 rfl (by kernel_rfl) ?_))
      refine HRI.out.mono ?_
      rintro e wz ⟨rfl, hBr⟩
      have HSr := Lib.hid (HS5.out.below hBr)
      clear hBr
      go_wp2_with (first | ((with_reducible refine gate_dst (N := 128) rfl ?_); refine wpList_load_row rfl 30 (.tmp 5) rfl b3 rfl 30 _ (0, 0) _ HSr.out.q Try.underlying30 rfl (by kernel_rfl) ?_) | ((with_reducible refine gate_store (t := 30) (p := 2) (v := .tmp 128) rfl ?_); refine store_ev2 (P := Try.prog) rfl 30 (.tmp 2) (.tmp 128) rfl rfl w.heap.size 0 (.agg #[(.int .i64 1), (.int .u32 0), (.int .u32 0), (.int .u64 0), (.int .u32 0), (.int .u64 f.1), (.int .u32 f.2.1), (.int .u64 0), (.int .u32 0), (.string ⟨#[]⟩), (.int .u8 0), (.bool false), (.slice none 0 0)]) #[(.int .i64 1), (.int .u32 0), (.int .u32 0), (.int .u64 0), (.int .u32 0), (.int .u64 f.1), (.int .u32 f.2.1), (.int .u64 0), (.int .u32 0), (.string ⟨#[]⟩), (.int .u8 0), (.bool false), (.slice none 0 0)] rfl rfl rfl 30 _ #[(.int .i64 1), (.int .u32 0), (.int .u32 0), (.int .u64 0), (.int .u32 0), (.int .u64 f.1), (.int .u32 f.2.1), (.int .u64 0), (.int .u32 0), (.string ⟨#[]⟩), (.int .u8 0), (.bool false), (.slice none 0 0)] HSr.out.z (by kernel_rfl) (by show 0 + 13 ≤ 13; decide) (by kernel_rfl) (by kernel_rfl) ?_; intro w19 hq hk hb; have HZ9 := Lib.hid hq; have HB9 := Lib.hid (hb _ _ HA.out.a HSr.out.b); clear hq hk hb))
      refine bodyPost_ret (results_ct rfl _ _ w.heap.size 30 _ (0, 0) _ rfl HZ9.out Try.underlying30 rfl (by kernel_rfl)) rfl ?_
      exact ⟨none, 0, by rw [HR2.out]; rfl, by rw [HR2.out]; exact Kd.C_nil _ _, by rw [HR2.out]; exact Nat.le_refl _, HB9.out⟩
  · have HR2 : Hid (readE s = (zE, 2)) := Lib.hid (by rw [HRD.out, if_neg he])
    have heb : (en == 0) = false := by simpa using he
    have heb2 : (en != 0) = true := by simpa using he
    go_wp2_with ((with_reducible refine gate_store (t := 30) (p := 2) (v := .tmp 127) rfl ?_); refine store_ev2 (P := Try.prog) rfl 30 (.tmp 2) (.tmp 127) rfl rfl w.heap.size 0 (.agg #[(.int .i64 0), (.int .u32 0), (.int .u32 0), (.int .u64 0), (.int .u32 0), (.int .u64 0), (.int .u32 0), (.int .u64 0), (.int .u32 0), (.string ⟨#[]⟩), (.int .u8 0), (.bool false), (.slice none 0 0)]) #[(.int .i64 0), (.int .u32 0), (.int .u32 0), (.int .u64 0), (.int .u32 0), (.int .u64 0), (.int .u32 0), (.int .u64 0), (.int .u32 0), (.string ⟨#[]⟩), (.int .u8 0), (.bool false), (.slice none 0 0)] rfl rfl rfl 30 _ #[(.int .i64 0), (.int .u32 0), (.int .u32 0), (.int .u64 0), (.int .u32 0), (.int .u64 0), (.int .u32 0), (.int .u64 0), (.int .u32 0), (.string ⟨#[]⟩), (.int .u8 0), (.bool false), (.slice none 0 0)] HS5.out.z (by kernel_rfl) (by show 0 + 13 ≤ 13; decide) (by kernel_rfl) (by kernel_rfl) ?_; intro w19 hq hk hb; have HZ9 := Lib.hid hq; have HB9 := Lib.hid (hb _ _ HA.out.a HS5.out.b); clear hq hk hb)
    refine bodyPost_ret (results_ct rfl _ _ w.heap.size 30 _ (0, 0) _ rfl HZ9.out Try.underlying30 rfl (by kernel_rfl)) rfl ?_
    exact ⟨none, 0, by rw [HR2.out]; rfl, by rw [HR2.out]; exact Kd.C_nil _ _, by rw [HR2.out]; exact Nat.le_refl _, HB9.out⟩
set_option maxRecDepth 100000 in
set_option maxHeartbeats 16000000 in
theorem dread_2 (s : ByteArray) (hs : s.size ≤ 9223372036854775807) (w : World) (hk : (rdNum s 0 9).1 = 2) : Calls Try.prog 13 #[.string s] w (ReadP s w) := by
  have HX0 := Lib.hid (heap_alloc_new w (.cells #[(.int .i64 0), (.int .u32 0), (.int .u32 0), (.int .u64 0), (.int .u32 0), (.int .u64 0), (.int .u32 0), (.int .u64 0), (.int .u32 0), (.string ⟨#[]⟩), (.int .u8 0), (.bool false), (.slice none 0 0)] 30))
  have HB0 := Lib.hid (below_alloc' (Below.refl _ w) (.cells #[(.int .i64 0), (.int .u32 0), (.int .u32 0), (.int .u64 0), (.int .u32 0), (.int .u64 0), (.int .u32 0), (.int .u64 0), (.int .u32 0), (.string ⟨#[]⟩), (.int .u8 0), (.bool false), (.slice none 0 0)] 30))
  go_enter Try.func13, Try.ntmps13
  go_wp2_with ((with_reducible refine gate_dst (N := 11) rfl ?_); refine box_event ?hg (N := 11) ?hd (cs := #[.string s, .int .i64 0]) (t := 75) ?hr ?_; (case hd => rfl); (case hg => rfl); (case hr => kernel_rfl); intro g hgg w1 hbox hbb; have HX1 := Lib.hid ((hbb.block _ (lt_at2 HX0.out)).trans HX0.out); have HB1 := Lib.hid (HB0.out.trans (hbb.mono HB0.out.size)); have HN2 : Hid (w.heap.size ≠ g) := Lib.hid (by have := lt_at2 HX0.out; omega); have HI1 : Hid (PDr.IsS75 w w1 g s 0) := Lib.hid ⟨hbox, by have := lt_at2 HX0.out; omega⟩; clear hgg hbox hbb HX0 HB0)
  refine (dnumber 9 (by decide) HI1.out HB1.out hs).mono ?_
  rintro e w2 ⟨rfl, hl⟩
  have za := rdNum_facts s 0 9 (by decide)
  obtain ⟨a, ha⟩ : ∃ x, x = rdNum s 0 9 := ⟨_, rfl⟩
  rw [← ha] at hl za hk ⊢
  have EA := Lib.hid ha
  have zaz := za.2.2
  rw [hk]
  have HK0 := Lib.hid hk
  clear ha hk za
  have h2 := blk_keep HX1.out hl.2.2 HN2.out
  have h3 := heap_alloc_new w2 (.cells #[(.int .i64 0), (.int .u32 0), (.int .u32 0), (.int .u64 0), (.int .u32 0), (.int .u64 0), (.int .u32 0), (.int .u64 0), (.int .u32 0), (.string ⟨#[]⟩), (.int .u8 0), (.bool false), (.slice none 0 0)] 30)
  have hg1 := lt_at2 hl.1.1
  have h22 := lt_at2 h2
  have HA : Hid (PUt w g w.heap.size w2.heap.size) := Lib.hid ⟨Nat.le_refl _, by have := hl.2.1.size; omega, HN2.out, by omega, by omega⟩
  have HS1 : Hid (QSu w g w.heap.size w2.heap.size #[(.int .i64 0), (.int .u32 0), (.int .u32 0), (.int .u64 0), (.int .u32 0), (.int .u64 0), (.int .u32 0), (.int .u64 0), (.int .u32 0), (.string ⟨#[]⟩), (.int .u8 0), (.bool false), (.slice none 0 0)] a.2.1 a.2.2 #[(.int .i64 0), (.int .u32 0), (.int .u32 0), (.int .u64 0), (.int .u32 0), (.int .u64 0), (.int .u32 0), (.int .u64 0), (.int .u32 0), (.string ⟨#[]⟩), (.int .u8 0), (.bool false), (.slice none 0 0)] (w2.alloc (.cells #[(.int .i64 0), (.int .u32 0), (.int .u32 0), (.int .u64 0), (.int .u32 0), (.int .u64 0), (.int .u32 0), (.int .u64 0), (.int .u32 0), (.string ⟨#[]⟩), (.int .u8 0), (.bool false), (.slice none 0 0)] 30))) := Lib.hid ⟨hl.1.alloc _, below_alloc' hl.2.1 _, blk_alloc h2 _, h3⟩
  clear hl h2 h3 hg1 h22 HX1 HN2 HI1 HB1
  go_wp2_with ((with_reducible refine gate_store (t := 30) (p := 5) (v := .tmp 15) rfl ?_); refine store_ev2 (P := Try.prog) rfl 30 (.tmp 5) (.tmp 15) rfl rfl w2.heap.size 0 (.agg #[(.int .i64 2), (.int .u32 0), (.int .u32 0), (.int .u64 0), (.int .u32 0), (.int .u64 0), (.int .u32 0), (.int .u64 0), (.int .u32 0), (.string ⟨#[]⟩), (.int .u8 0), (.bool false), (.slice none 0 0)]) #[(.int .i64 2), (.int .u32 0), (.int .u32 0), (.int .u64 0), (.int .u32 0), (.int .u64 0), (.int .u32 0), (.int .u64 0), (.int .u32 0), (.string ⟨#[]⟩), (.int .u8 0), (.bool false), (.slice none 0 0)] rfl rfl rfl 30 _ #[(.int .i64 2), (.int .u32 0), (.int .u32 0), (.int .u64 0), (.int .u32 0), (.int .u64 0), (.int .u32 0), (.int .u64 0), (.int .u32 0), (.string ⟨#[]⟩), (.int .u8 0), (.bool false), (.slice none 0 0)] HS1.out.q (by kernel_rfl) (by show 0 + 13 ≤ 13; decide) (by kernel_rfl) (by kernel_rfl) ?_; intro w2s hq hk hb; have HS2 := Lib.hid (HS1.out.store HA.out hq hk hb); have x0 := (blk_cell HS2.out.q 0).trans (show _ = some (.int .i64 2) from rfl); clear hq hk hb)
  clear HS1
  generalize w2.heap.size = b3 at *
  clear x0
  refine (dnumber 4294967295 (by decide) HS2.out.i HS2.out.b (by omega)).mono ?_
  rintro e w3c ⟨rfl, hl⟩
  have zb := rdNum_facts a.2.1 a.2.2 4294967295 (by decide)
  obtain ⟨b, hb⟩ : ∃ x, x = rdNum a.2.1 a.2.2 4294967295 := ⟨_, rfl⟩
  rw [← hb] at hl zb ⊢
  have EB := Lib.hid hb
  clear hb
  have HS3 := Lib.hid (HS2.out.call HA.out hl)
  clear hl HS2 
  have x0 := (blk_cell HS3.out.q 0).trans (show _ = some (.int .i64 2) from rfl)
  have hwb : b.1 % 4294967296 = b.1 := Int.emod_eq_of_lt zb.1 (by omega)
  go_wp2_with ((with_reducible refine gate_store (t := 22) (p := 28) (v := .tmp 26) rfl ?_); refine store_ev2 (P := Try.prog) rfl 22 (.tmp 28) (.tmp 26) rfl rfl b3 1 (.int .u32 b.1) #[(.int .u32 b.1)] rfl rfl rfl 30 _ #[(.int .i64 2), (.int .u32 b.1), (.int .u32 0), (.int .u64 0), (.int .u32 0), (.int .u64 0), (.int .u32 0), (.int .u64 0), (.int .u32 0), (.string ⟨#[]⟩), (.int .u8 0), (.bool false), (.slice none 0 0)] HS3.out.q (by kernel_rfl) (by show 1 + 1 ≤ 13; decide) (by kernel_rfl) (by kernel_rfl) ?_; intro w4s hq hk hb; clear x0; have HS4 := Lib.hid (HS3.out.store HA.out hq hk hb); have x0 := (blk_cell HS4.out.q 0).trans (show _ = some (.int .i64 2) from rfl); clear hq hk hb)
  clear HS3 
  clear x0
  refine (dnumber 4294967295 (by decide) HS4.out.i HS4.out.b (by omega)).mono ?_
  rintro e w5c ⟨rfl, hl⟩
  have zb0 := rdNum_facts b.2.1 b.2.2 4294967295 (by decide)
  obtain ⟨b0, hb0⟩ : ∃ x, x = rdNum b.2.1 b.2.2 4294967295 := ⟨_, rfl⟩
  rw [← hb0] at hl zb0 ⊢
  have EB0 := Lib.hid hb0
  clear hb0
  have HS5 := Lib.hid (HS4.out.call HA.out hl)
  clear hl HS4 
  have x0 := (blk_cell HS5.out.q 0).trans (show _ = some (.int .i64 2) from rfl)
  have hwb0 : b0.1 % 4294967296 = b0.1 := Int.emod_eq_of_lt zb0.1 (by omega)
  go_wp2_with ((with_reducible refine gate_store (t := 22) (p := 33) (v := .tmp 31) rfl ?_); refine store_ev2 (P := Try.prog) rfl 22 (.tmp 33) (.tmp 31) rfl rfl b3 2 (.int .u32 b0.1) #[(.int .u32 b0.1)] rfl rfl rfl 30 _ #[(.int .i64 2), (.int .u32 b.1), (.int .u32 b0.1), (.int .u64 0), (.int .u32 0), (.int .u64 0), (.int .u32 0), (.int .u64 0), (.int .u32 0), (.string ⟨#[]⟩), (.int .u8 0), (.bool false), (.slice none 0 0)] HS5.out.q (by kernel_rfl) (by show 2 + 1 ≤ 13; decide) (by kernel_rfl) (by kernel_rfl) ?_; intro w6s hq hk hb; clear x0; have HS6 := Lib.hid (HS5.out.store HA.out hq hk hb); have x0 := (blk_cell HS6.out.q 0).trans (show _ = some (.int .i64 2) from rfl); clear hq hk hb)
  clear HS5 
  clear x0
  refine (dstamp HS6.out.i HS6.out.b (by omega)).mono ?_
  rintro e w7c ⟨rfl, hl⟩
  have zc := stamp_sz b0.2.1 b0.2.2
  obtain ⟨c, hc⟩ : ∃ x, x = rdStamp b0.2.1 b0.2.2 := ⟨_, rfl⟩
  rw [← hc] at hl zc ⊢
  have EC := Lib.hid hc
  clear hc
  have HS7 := Lib.hid (HS6.out.call HA.out hl)
  clear hl HS6 
  have x0 := (blk_cell HS7.out.q 0).trans (show _ = some (.int .i64 2) from rfl)
  go_wp2_with ((with_reducible refine gate_store (t := 27) (p := 54) (v := .tmp 53) rfl ?_); refine store_ev2 (P := Try.prog) rfl 27 (.tmp 54) (.tmp 53) rfl rfl b3 3 (.agg #[.int .u64 c.1, .int .u32 c.2.1]) #[(.int .u64 c.1), (.int .u32 c.2.1)] rfl rfl rfl 30 _ #[(.int .i64 2), (.int .u32 b.1), (.int .u32 b0.1), (.int .u64 c.1), (.int .u32 c.2.1), (.int .u64 0), (.int .u32 0), (.int .u64 0), (.int .u32 0), (.string ⟨#[]⟩), (.int .u8 0), (.bool false), (.slice none 0 0)] HS7.out.q (by kernel_rfl) (by show 3 + 2 ≤ 13; decide) (by kernel_rfl) (by kernel_rfl) ?_; intro w8s hq hk hb; clear x0; have HS8 := Lib.hid (HS7.out.store HA.out hq hk hb); have x0 := (blk_cell HS8.out.q 0).trans (show _ = some (.int .i64 2) from rfl); clear hq hk hb)
  clear HS7 
  clear x0
  refine (dstamp HS8.out.i HS8.out.b (by omega)).mono ?_
  rintro e w9c ⟨rfl, hl⟩
  have zd := stamp_sz c.2.2.1 c.2.2.2
  obtain ⟨d, hd⟩ : ∃ x, x = rdStamp c.2.2.1 c.2.2.2 := ⟨_, rfl⟩
  rw [← hd] at hl zd ⊢
  have ED := Lib.hid hd
  clear hd
  have HS9 := Lib.hid (HS8.out.call HA.out hl)
  clear hl HS8 
  have x0 := (blk_cell HS9.out.q 0).trans (show _ = some (.int .i64 2) from rfl)
  go_wp2_with ((with_reducible refine gate_store (t := 27) (p := 61) (v := .tmp 60) rfl ?_); refine store_ev2 (P := Try.prog) rfl 27 (.tmp 61) (.tmp 60) rfl rfl b3 7 (.agg #[.int .u64 d.1, .int .u32 d.2.1]) #[(.int .u64 d.1), (.int .u32 d.2.1)] rfl rfl rfl 30 _ #[(.int .i64 2), (.int .u32 b.1), (.int .u32 b0.1), (.int .u64 c.1), (.int .u32 c.2.1), (.int .u64 0), (.int .u32 0), (.int .u64 d.1), (.int .u32 d.2.1), (.string ⟨#[]⟩), (.int .u8 0), (.bool false), (.slice none 0 0)] HS9.out.q (by kernel_rfl) (by show 7 + 2 ≤ 13; decide) (by kernel_rfl) (by kernel_rfl) ?_; intro w10s hq hk hb; clear x0; have HS10 := Lib.hid (HS9.out.store HA.out hq hk hb); have x0 := (blk_cell HS10.out.q 0).trans (show _ = some (.int .i64 2) from rfl); clear hq hk hb)
  clear HS9 
  clear x0
  refine (dtext 1 32 HS10.out.i HS10.out.b (by omega) (by decide) (by decide)).mono ?_
  rintro e w11c ⟨rfl, hl⟩
  have zt := text_sz d.2.2.1 d.2.2.2 1 32
  obtain ⟨t, ht⟩ : ∃ x, x = rdText d.2.2.1 d.2.2.2 1 32 := ⟨_, rfl⟩
  rw [← ht] at hl zt ⊢
  have ET := Lib.hid ht
  clear ht
  have HS11 := Lib.hid (HS10.out.call HA.out hl)
  clear hl HS10 
  have x0 := (blk_cell HS11.out.q 0).trans (show _ = some (.int .i64 2) from rfl)
  go_wp2_with ((with_reducible refine gate_store (t := 9) (p := 64) (v := .tmp 63) rfl ?_); refine store_ev2 (P := Try.prog) rfl 9 (.tmp 64) (.tmp 63) rfl rfl b3 9 (.string t.1) #[(.string t.1)] rfl rfl rfl 30 _ #[(.int .i64 2), (.int .u32 b.1), (.int .u32 b0.1), (.int .u64 c.1), (.int .u32 c.2.1), (.int .u64 0), (.int .u32 0), (.int .u64 d.1), (.int .u32 d.2.1), (.string t.1), (.int .u8 0), (.bool false), (.slice none 0 0)] HS11.out.q (by kernel_rfl) (by show 9 + 1 ≤ 13; decide) (by kernel_rfl) (by kernel_rfl) ?_; intro w12s hq hk hb; clear x0; have HS12 := Lib.hid (HS11.out.store HA.out hq hk hb); have x0 := (blk_cell HS12.out.q 0).trans (show _ = some (.int .i64 2) from rfl); clear hq hk hb)
  clear HS11 
  clear x0
  refine (dcount 16 HS12.out.i HS12.out.b (by omega) (by decide)).mono ?_
  rintro e w13c ⟨rfl, hl⟩
  have zn := (And.intro (count_sz t.2.1 t.2.2 16 (by decide)) (count_le t.2.1 t.2.2 16 (by decide)))
  obtain ⟨n, hn⟩ : ∃ x, x = rdCount t.2.1 t.2.2 16 := ⟨_, rfl⟩
  rw [← hn] at hl zn ⊢
  have EN := Lib.hid hn
  clear hn
  have HS13 := Lib.hid (HS12.out.call HA.out hl)
  clear hl HS12 
  have x0 := (blk_cell HS13.out.q 0).trans (show _ = some (.int .i64 2) from rfl)
  obtain ⟨N, hN⟩ : ∃ N : Nat, n.1 = (N : Int) := ⟨n.1.toNat, by omega⟩
  have hN16 : N ≤ 16 := by omega
  have zn1 := zn.1
  clear zn
  rw [hN]
  have HN := Lib.hid hN
  clear hN
  go_wp2_with fail
  have HS0 := HS13
  clear HS13 x0
  go_loopg [7] (N + 1) (fun gk v7 wr => ∃ (i : Nat) (A : Option Addr) (L cp : Nat), i ≤ N ∧ v7 = .int .i64 (i : Int) ∧ Aside0 (i + gk = N + 1) ∧ Aside0 (Kd.R k54 54 wr w.heap.size (fun _ => True) (.slice A L cp) (lstR rdW i n.2.1 n.2.2).1) ∧ Aside0 (QSu w g w.heap.size b3 #[(.int .i64 0), (.int .u32 0), (.int .u32 0), (.int .u64 0), (.int .u32 0), (.int .u64 0), (.int .u32 0), (.int .u64 0), (.int .u32 0), (.string ⟨#[]⟩), (.int .u8 0), (.bool false), (.slice none 0 0)] (lstR rdW i n.2.1 n.2.2).2.1 (lstR rdW i n.2.1 n.2.2).2.2 #[(.int .i64 2), (.int .u32 b.1), (.int .u32 b0.1), (.int .u64 c.1), (.int .u32 c.2.1), (.int .u64 0), (.int .u32 0), (.int .u64 d.1), (.int .u32 d.2.1), (.string t.1), (.int .u8 0), (.bool false), (.slice A L cp)] wr))
  case atStart => exact ⟨0, none, 0, 0, Nat.zero_le _, rfl, ⟨by omega⟩, ⟨Kd.R_nil _ _ _ _ _⟩, ⟨HS0.out⟩⟩
  case round =>
  obtain ⟨i, A, L, cp, hi, rfl, ⟨hgk⟩, ⟨hR⟩, ⟨hS⟩⟩ := hrel
  have HG := Lib.hid hgk
  have hsl := lst_sz rdW w_sz i n.2.1 n.2.2
  have hll := lst_len rdW i n.2.1 n.2.2
  obtain ⟨r, hr⟩ : ∃ r, r = (lstR rdW i n.2.1 n.2.2) := ⟨_, rfl⟩
  rw [← hr] at hR hS hsl hll
  have ER := Lib.hid hr
  have HR1 := Lib.hid hR
  have HS1 := Lib.hid hS
  have HLX := Lib.hid hll
  clear hgk hR hS hr hll HS0
  rcases (show i < N ∨ i = N by omega) with hlt | rfl
  · as_aux_lemma =>
      go_wp2_with fail
      refine (dtext 1 32 HS1.out.i HS1.out.b (by omega) (by decide) (by decide)).mono ?_
      rintro e w2 ⟨rfl, hl⟩
      have HR2 := Lib.hid (R_thru2 HR1.out HS1.out.i.1 (by decide) hl.2.2)
      have zp := text_sz r.2.1 r.2.2 1 32
      obtain ⟨p, hp⟩ : ∃ x, x = rdText r.2.1 r.2.2 1 32 := ⟨_, rfl⟩
      rw [← hp] at hl zp ⊢
      have EP := Lib.hid hp
      have HS2 := Lib.hid (HS1.out.call HA.out hl)
      clear hl hp HS1 HR1 
      have HX2a := Lib.hid (heap_alloc_new w2 (.cells #[.string ⟨#[]⟩, .string ⟨#[]⟩, .bool false] 54))
      have HS2a := Lib.hid (HS2.out.alloc (.cells #[.string ⟨#[]⟩, .string ⟨#[]⟩, .bool false] 54))
      have HR2a := Lib.hid (R_apart2 HR2.out (.cells #[.string ⟨#[]⟩, .string ⟨#[]⟩, .bool false] 54))
      have H36 : Hid (g ≠ w2.heap.size ∧ w.heap.size ≠ w2.heap.size ∧ b3 ≠ w2.heap.size ∧ w.heap.size ≤ w2.heap.size) := Lib.hid ⟨by have := lt_at2 HS2.out.i.1; omega, by have := lt_at2 HS2.out.z; omega, by have := lt_at2 HS2.out.q; omega, HS2.out.b.size⟩
      have HNG : Hid (w2.heap.size ≠ g) := Lib.hid (by have := lt_at2 HS2.out.i.1; omega)
      clear HS2 HR2
      go_wp2_with ((with_reducible refine gate_store (t := 54) (p := 8) (v := .tmp 88) rfl ?_); refine store_ev2 (P := Try.prog) rfl 54 (.tmp 8) (.tmp 88) rfl rfl w2.heap.size 0 (.agg #[(.string p.1), (.string ⟨#[]⟩), (.bool false)]) #[(.string p.1), (.string ⟨#[]⟩), (.bool false)] rfl rfl rfl 54 _ #[(.string p.1), (.string ⟨#[]⟩), (.bool false)] HX2a.out (by kernel_rfl) (by show 0 + 3 ≤ 3; decide) (by kernel_rfl) (by kernel_rfl) ?_; intro w3 hq hk hb; have HX3 := Lib.hid hq; have HR3 := Lib.hid (R_keep2 HR2a.out hk); have HS3 := Lib.hid (HS2a.out.other hk hb H36.out); clear hq hk hb)
      clear HX2a HS2a HR2a
      generalize w2.heap.size = b6 at HX3 HR3 HS3 H36 HNG ⊢
      refine (dflag HS3.out.i HS3.out.b).mono ?_
      rintro e w4 ⟨rfl, hl⟩
      have HR4 := Lib.hid (R_thru2 HR3.out HS3.out.i.1 (by decide) hl.2.2)
      have HX4 := Lib.hid (blk_keep2 HX3.out hl.2.2 HNG.out)
      have zq1 := flag_sz p.2.1 p.2.2
      obtain ⟨q1, hq1⟩ : ∃ x, x = rdFlag p.2.1 p.2.2 := ⟨_, rfl⟩
      rw [← hq1] at hl zq1 ⊢
      have EQ1 := Lib.hid hq1
      have HS4 := Lib.hid (HS3.out.call HA.out hl)
      clear hl hq1 HS3 HR3 HX3
      go_wp2_with ((with_reducible refine gate_store (t := 4) (p := 91) (v := .tmp 90) rfl ?_); refine store_ev2 (P := Try.prog) rfl 4 (.tmp 91) (.tmp 90) rfl rfl b6 2 (.bool q1.1) #[(.bool q1.1)] rfl rfl rfl 54 _ #[(.string p.1), (.string ⟨#[]⟩), (.bool q1.1)] HX4.out (by kernel_rfl) (by show 2 + 1 ≤ 3; decide) (by kernel_rfl) (by kernel_rfl) ?_; intro w5 hq hk hb; have HX5 := Lib.hid hq; have HR5 := Lib.hid (R_keep2 HR4.out hk); have HS5 := Lib.hid (HS4.out.other hk hb H36.out); clear hq hk hb)
      clear HX4 HS4 HR4
      refine (dtext 0 256 HS5.out.i HS5.out.b (by omega) (by decide) (by decide)).mono ?_
      rintro e w6 ⟨rfl, hl⟩
      have HR6 := Lib.hid (R_thru2 HR5.out HS5.out.i.1 (by decide) hl.2.2)
      have HX6 := Lib.hid (blk_keep2 HX5.out hl.2.2 HNG.out)
      have zu := text_sz q1.2.1 q1.2.2 0 256
      obtain ⟨u, hu⟩ : ∃ x, x = rdText q1.2.1 q1.2.2 0 256 := ⟨_, rfl⟩
      rw [← hu] at hl zu ⊢
      have EU := Lib.hid hu
      have HS6 := Lib.hid (HS5.out.call HA.out hl)
      clear hl hu HS5 HR5 HX5
      go_wp2_with (first | ((with_reducible refine gate_store (t := 9) (p := 94) (v := .tmp 93) rfl ?_); refine store_ev2 (P := Try.prog) rfl 9 (.tmp 94) (.tmp 93) rfl rfl b6 1 (.string u.1) #[(.string u.1)] rfl rfl rfl 54 _ #[(.string p.1), (.string u.1), (.bool q1.1)] HX6.out (by kernel_rfl) (by show 1 + 1 ≤ 3; decide) (by kernel_rfl) (by kernel_rfl) ?_; intro w7 hq hk hb; have HX7 := Lib.hid hq; have HR7 := Lib.hid (R_keep2 HR6.out hk); have HS7 := Lib.hid (HS6.out.other hk hb H36.out); have x12 := (blk_cell HS7.out.q 12).trans (show _ = some (.slice A L cp) from rfl); clear hq hk hb) | ((with_reducible refine gate_dst (N := 97) rfl ?_); refine wpList_load_row rfl 54 (.tmp 8) rfl b6 rfl 54 _ (0, 0) _ HX7.out Try.underlying54 rfl (by kernel_rfl) ?_) | ((with_reducible refine gate_dst (N := 99) rfl ?_); refine Kd.R_append k54 w.heap.size rfl (.tmp 96) (.tmp 98) 28 54 (.agg #[(.string ⟨#[]⟩), (.string ⟨#[]⟩), (.bool false)]) 40 rfl Try.underlying28 info54 rfl (by decide) (by omega) (.slice A L cp) r.1 (⟨p.1, u.1, q1.1⟩ : S54) [.string p.1, .string u.1, .bool q1.1] (fun _ => True) (fun _ => False) rfl rfl ?aP (fun _ hk => hk.elim) (fun _ _ => trivial) (R_free2 HR7.out) (Below.refl _ _) HS7.out.b.size ?aL ?_; (case aP => exact k54_mkM _ _ _ (⟨p.1, u.1, q1.1⟩ : S54)); (case aL => have := HLX.out; omega); intro v8 w8 hR hb hg hat; have HS8 := Lib.hid (HS7.out.grown (R_free2 HR7.out) (by decide) (by decide) hg hb); obtain ⟨A8, c8, e8, hz8, _⟩ := Kd.R_reads hR; obtain rfl := e8.trans (congrArg (fun n => Value.slice A8 n c8) (List.length_append : (r.1 ++ [(⟨p.1, u.1, q1.1⟩ : S54)]).length = r.1.length + 1)); have HR8 := Lib.hid hR; clear e8 hz8 hR hb hg hat x12) | ((with_reducible refine gate_store (t := 28) (p := 100) (v := .tmp 99) rfl ?_); refine store_ev2 (P := Try.prog) rfl 28 (.tmp 100) (.tmp 99) rfl rfl b3 12 (.slice A8 (r.1.length + 1) c8) #[(.slice A8 (r.1.length + 1) c8)] rfl rfl rfl 30 _ #[(.int .i64 2), (.int .u32 b.1), (.int .u32 b0.1), (.int .u64 c.1), (.int .u32 c.2.1), (.int .u64 0), (.int .u32 0), (.int .u64 d.1), (.int .u32 d.2.1), (.string t.1), (.int .u8 0), (.bool false), (.slice A8 (r.1.length + 1) c8)] HS8.out.q (by kernel_rfl) (by show 12 + 1 ≤ 13; decide) (by kernel_rfl) (by kernel_rfl) ?_; intro w9 hq hk hb; have HS9 := Lib.hid (HS8.out.store HA.out hq hk hb); have HR9 := Lib.hid (R_thru2 HR8.out HS8.out.q (by decide) hk); clear hq hk hb))
      go_roundg (gk - 1)
      case measure => have := HG.out; omega
      have hs : lstR rdW (i + 1) n.2.1 n.2.2 = (r.1 ++ [(⟨p.1, u.1, q1.1⟩ : S54)], u.2.1, u.2.2) := by rw [lst_snoc, ← ER.out]; simp only [rdW, ← EP.out, ← EQ1.out, ← EU.out]
      case rel => exact ⟨i + 1, A8, _, c8, by omega, by go_num, ⟨by have := HG.out; omega⟩, ⟨by rw [hs]; exact HR9.out⟩, ⟨by rw [hs]; exact HS9.out⟩⟩
  · skip
    obtain rfl := (Kd.R_reads' HR1.out).1
    have HRx := HR1
    have HSx := HS1
    have zl := hsl
    have EL := ER
    clear HR1 HS1 ER HG HLX hsl
    have HR100 := HRx
    have HS100 := HSx
    clear HRx HSx
    have x0 := (blk_cell HS100.out.q 0).trans (show _ = some (.int .i64 2) from rfl)
    go_wp2_with fail
    clear x0
    refine (dend HS100.out.i HS100.out.b).mono ?_
    rintro e w101c ⟨rfl, hl⟩
    have HR101 := Lib.hid (R_thru2 HR100.out HS100.out.i.1 (by decide) hl.2.2)
    have HS101 := Lib.hid (HS100.out.call HA.out hl)
    clear hl HS100 HR100
    obtain ⟨en, hen⟩ : ∃ en, en = rdEnd r.2.1 r.2.2 := ⟨_, rfl⟩
    rw [← hen]
    have HEN := Lib.hid hen
    clear hen
    have HRD : Hid (readE s = if en = 0 then (if rightE ⟨2, b.1, b0.1, c.1, c.2.1, 0, 0, d.1, d.2.1, t.1, 0, false, r.1⟩ = true then (⟨2, b.1, b0.1, c.1, c.2.1, 0, 0, d.1, d.2.1, t.1, 0, false, r.1⟩, 0) else (zE, 2)) else (zE, 2)) := Lib.hid (by
      have hp : rdE s = (⟨2, b.1, b0.1, c.1, c.2.1, 0, 0, d.1, d.2.1, t.1, 0, false, r.1⟩, r.2.1, r.2.2) := by
        unfold rdE rdTail orX rdX
        rw [← EA.out, HK0.out]
        simp [hB, hS, hM, hA, hW, hT, hD, ← EB.out, ← EB0.out, ← EC.out, ← ED.out, ← ET.out, ← EN.out, HN.out, Int.toNat_natCast, ← EL.out]
      unfold readE
      rw [hp, ← HEN.out])
    have HOK : Hid (EOk ⟨2, b.1, b0.1, c.1, c.2.1, 0, 0, d.1, d.2.1, t.1, 0, false, r.1⟩) := Lib.hid (by
      have hp : (rdTail 2 a.2.1 a.2.2).1 = ⟨2, b.1, b0.1, c.1, c.2.1, 0, 0, d.1, d.2.1, t.1, 0, false, r.1⟩ := by
        unfold rdTail orX rdX
        simp [hB, hS, hM, hA, hW, hT, hD, ← EB.out, ← EB0.out, ← EC.out, ← ED.out, ← ET.out, ← EN.out, HN.out, Int.toNat_natCast, ← EL.out]
      rw [← hp]
      exact tailOk _ (by decide) _ _)
    rcases (show en = 0 ∨ en ≠ 0 from by omega) with he | he
    · subst he
      have HCC : Hid (EnIn w101c ⟨2, b.1, b0.1, c.1, c.2.1, 0, 0, d.1, d.2.1, t.1, 0, false, r.1⟩ A cp) := Lib.hid ⟨(Kd.R_reads' HR101.out).2.2, (Kd.R_reads' HR101.out).2.1⟩
      cases hri : rightE ⟨2, b.1, b0.1, c.1, c.2.1, 0, 0, d.1, d.2.1, t.1, 0, false, r.1⟩ with
      | false =>
        have HR2 : Hid (readE s = (zE, 2)) := Lib.hid (by rw [HRD.out, if_pos rfl, if_neg (by rw [hri]; decide)])
        have HRI := Lib.hid ((rright_calls ⟨2, b.1, b0.1, c.1, c.2.1, 0, 0, d.1, d.2.1, t.1, 0, false, r.1⟩ A cp w101c HCC.out HOK.out.ws).mono fun rr w' (h : rr = .returned (.bool (rightE ⟨2, b.1, b0.1, c.1, c.2.1, 0, 0, d.1, d.2.1, t.1, 0, false, r.1⟩)) ∧ Below w101c.heap.size w101c w') => (⟨by rw [h.1, hri], h.2⟩ : rr = .returned (.bool false) ∧ Below w101c.heap.size w101c w'))
        have HRV := Lib.hid hri
        clear hri
        go_wp2_with (first | ((with_reducible refine gate_dst (N := 123) rfl ?_); refine wpList_load_row rfl 30 (.tmp 5) rfl b3 rfl 30 _ (0, 0) _ HS101.out.q Try.underlying30 rfl (by kernel_rfl) ?_) | ((with_reducible refine gate_dst (N := 123) rfl ?_); refine gate_guard (by rfl) ?_; refine wpList_load_row rfl 30 (.tmp 5) rfl b3 rfl 30 _ (0, 0) _ HS101.out.q Try.underlying30 rfl (by kernel_rfl) ?_))
        refine HRI.out.mono ?_
        rintro e wz ⟨rfl, hBr⟩
        have HSr := Lib.hid (HS101.out.below hBr)
        have HRr := Lib.hid (Kd.R_below HR101.out hBr)
        clear hBr
        go_wp2_with ((with_reducible refine gate_store (t := 30) (p := 2) (v := .tmp 127) rfl ?_); refine store_ev2 (P := Try.prog) rfl 30 (.tmp 2) (.tmp 127) rfl rfl w.heap.size 0 (.agg #[(.int .i64 0), (.int .u32 0), (.int .u32 0), (.int .u64 0), (.int .u32 0), (.int .u64 0), (.int .u32 0), (.int .u64 0), (.int .u32 0), (.string ⟨#[]⟩), (.int .u8 0), (.bool false), (.slice none 0 0)]) #[(.int .i64 0), (.int .u32 0), (.int .u32 0), (.int .u64 0), (.int .u32 0), (.int .u64 0), (.int .u32 0), (.int .u64 0), (.int .u32 0), (.string ⟨#[]⟩), (.int .u8 0), (.bool false), (.slice none 0 0)] rfl rfl rfl 30 _ #[(.int .i64 0), (.int .u32 0), (.int .u32 0), (.int .u64 0), (.int .u32 0), (.int .u64 0), (.int .u32 0), (.int .u64 0), (.int .u32 0), (.string ⟨#[]⟩), (.int .u8 0), (.bool false), (.slice none 0 0)] HSr.out.z (by kernel_rfl) (by show 0 + 13 ≤ 13; decide) (by kernel_rfl) (by kernel_rfl) ?_; intro w19 hq hk hb; have HZ9 := Lib.hid hq; have HB9 := Lib.hid (hb _ _ HA.out.a HSr.out.b); clear hq hk hb)
        refine bodyPost_ret (results_ct rfl _ _ w.heap.size 30 _ (0, 0) _ rfl HZ9.out Try.underlying30 rfl (by kernel_rfl)) rfl ?_
        exact ⟨none, 0, by rw [HR2.out]; rfl, by rw [HR2.out]; exact Kd.C_nil _ _, by rw [HR2.out]; exact Nat.le_refl _, HB9.out⟩
      | true =>
        have HR2 : Hid (readE s = (⟨2, b.1, b0.1, c.1, c.2.1, 0, 0, d.1, d.2.1, t.1, 0, false, r.1⟩, 0)) := Lib.hid (by rw [HRD.out, if_pos rfl, if_pos hri])
        have HRI := Lib.hid ((rright_calls ⟨2, b.1, b0.1, c.1, c.2.1, 0, 0, d.1, d.2.1, t.1, 0, false, r.1⟩ A cp w101c HCC.out HOK.out.ws).mono fun rr w' (h : rr = .returned (.bool (rightE ⟨2, b.1, b0.1, c.1, c.2.1, 0, 0, d.1, d.2.1, t.1, 0, false, r.1⟩)) ∧ Below w101c.heap.size w101c w') => (⟨by rw [h.1, hri], h.2⟩ : rr = .returned (.bool true) ∧ Below w101c.heap.size w101c w'))
        have HRV := Lib.hid hri
        clear hri
        go_wp2_with (first | ((with_reducible refine gate_dst (N := 123) rfl ?_); refine wpList_load_row rfl 30 (.tmp 5) rfl b3 rfl 30 _ (0, 0) _ HS101.out.q Try.underlying30 rfl (by kernel_rfl) ?_) | ((with_reducible refine gate_dst (N := 123) rfl ?_); refine gate_guard (by rfl) ?_; refine wpList_load_row rfl 30 (.tmp 5) rfl b3 rfl 30 _ (0, 0) _ HS101.out.q Try.underlying30 rfl (by kernel_rfl) ?_))
        refine HRI.out.mono ?_
        rintro e wz ⟨rfl, hBr⟩
        have HSr := Lib.hid (HS101.out.below hBr)
        have HRr := Lib.hid (Kd.R_below HR101.out hBr)
        clear hBr
        go_wp2_with (first | ((with_reducible refine gate_dst (N := 128) rfl ?_); refine wpList_load_row rfl 30 (.tmp 5) rfl b3 rfl 30 _ (0, 0) _ HSr.out.q Try.underlying30 rfl (by kernel_rfl) ?_) | ((with_reducible refine gate_store (t := 30) (p := 2) (v := .tmp 128) rfl ?_); refine store_ev2 (P := Try.prog) rfl 30 (.tmp 2) (.tmp 128) rfl rfl w.heap.size 0 (.agg #[(.int .i64 2), (.int .u32 b.1), (.int .u32 b0.1), (.int .u64 c.1), (.int .u32 c.2.1), (.int .u64 0), (.int .u32 0), (.int .u64 d.1), (.int .u32 d.2.1), (.string t.1), (.int .u8 0), (.bool false), (.slice A r.1.length cp)]) #[(.int .i64 2), (.int .u32 b.1), (.int .u32 b0.1), (.int .u64 c.1), (.int .u32 c.2.1), (.int .u64 0), (.int .u32 0), (.int .u64 d.1), (.int .u32 d.2.1), (.string t.1), (.int .u8 0), (.bool false), (.slice A r.1.length cp)] rfl rfl rfl 30 _ #[(.int .i64 2), (.int .u32 b.1), (.int .u32 b0.1), (.int .u64 c.1), (.int .u32 c.2.1), (.int .u64 0), (.int .u32 0), (.int .u64 d.1), (.int .u32 d.2.1), (.string t.1), (.int .u8 0), (.bool false), (.slice A r.1.length cp)] HSr.out.z (by kernel_rfl) (by show 0 + 13 ≤ 13; decide) (by kernel_rfl) (by kernel_rfl) ?_; intro w19 hq hk hb; have HZ9 := Lib.hid hq; have HB9 := Lib.hid (hb _ _ HA.out.a HSr.out.b); have HRz := Lib.hid (R_thru2 HRr.out HSr.out.z (by decide) hk); clear hq hk hb))
        refine bodyPost_ret (results_ct rfl _ _ w.heap.size 30 _ (0, 0) _ rfl HZ9.out Try.underlying30 rfl (by kernel_rfl)) rfl ?_
        exact ⟨A, cp, by rw [HR2.out]; rfl, by rw [HR2.out]; exact (Kd.R_reads' HRz.out).2.2, by rw [HR2.out]; exact (Kd.R_reads' HRz.out).2.1, HB9.out⟩
    · have HR2 : Hid (readE s = (zE, 2)) := Lib.hid (by rw [HRD.out, if_neg he])
      have heb : (en == 0) = false := by simpa using he
      have heb2 : (en != 0) = true := by simpa using he
      go_wp2_with ((with_reducible refine gate_store (t := 30) (p := 2) (v := .tmp 127) rfl ?_); refine store_ev2 (P := Try.prog) rfl 30 (.tmp 2) (.tmp 127) rfl rfl w.heap.size 0 (.agg #[(.int .i64 0), (.int .u32 0), (.int .u32 0), (.int .u64 0), (.int .u32 0), (.int .u64 0), (.int .u32 0), (.int .u64 0), (.int .u32 0), (.string ⟨#[]⟩), (.int .u8 0), (.bool false), (.slice none 0 0)]) #[(.int .i64 0), (.int .u32 0), (.int .u32 0), (.int .u64 0), (.int .u32 0), (.int .u64 0), (.int .u32 0), (.int .u64 0), (.int .u32 0), (.string ⟨#[]⟩), (.int .u8 0), (.bool false), (.slice none 0 0)] rfl rfl rfl 30 _ #[(.int .i64 0), (.int .u32 0), (.int .u32 0), (.int .u64 0), (.int .u32 0), (.int .u64 0), (.int .u32 0), (.int .u64 0), (.int .u32 0), (.string ⟨#[]⟩), (.int .u8 0), (.bool false), (.slice none 0 0)] HS101.out.z (by kernel_rfl) (by show 0 + 13 ≤ 13; decide) (by kernel_rfl) (by kernel_rfl) ?_; intro w19 hq hk hb; have HZ9 := Lib.hid hq; have HB9 := Lib.hid (hb _ _ HA.out.a HS101.out.b); clear hq hk hb)
      refine bodyPost_ret (results_ct rfl _ _ w.heap.size 30 _ (0, 0) _ rfl HZ9.out Try.underlying30 rfl (by kernel_rfl)) rfl ?_
      exact ⟨none, 0, by rw [HR2.out]; rfl, by rw [HR2.out]; exact Kd.C_nil _ _, by rw [HR2.out]; exact Nat.le_refl _, HB9.out⟩
set_option maxRecDepth 100000 in
set_option maxHeartbeats 16000000 in
theorem dread_3 (s : ByteArray) (hs : s.size ≤ 9223372036854775807) (w : World) (hk : (rdNum s 0 9).1 = 3) : Calls Try.prog 13 #[.string s] w (ReadP s w) := by
  have HX0 := Lib.hid (heap_alloc_new w (.cells #[(.int .i64 0), (.int .u32 0), (.int .u32 0), (.int .u64 0), (.int .u32 0), (.int .u64 0), (.int .u32 0), (.int .u64 0), (.int .u32 0), (.string ⟨#[]⟩), (.int .u8 0), (.bool false), (.slice none 0 0)] 30))
  have HB0 := Lib.hid (below_alloc' (Below.refl _ w) (.cells #[(.int .i64 0), (.int .u32 0), (.int .u32 0), (.int .u64 0), (.int .u32 0), (.int .u64 0), (.int .u32 0), (.int .u64 0), (.int .u32 0), (.string ⟨#[]⟩), (.int .u8 0), (.bool false), (.slice none 0 0)] 30))
  go_enter Try.func13, Try.ntmps13
  go_wp2_with ((with_reducible refine gate_dst (N := 11) rfl ?_); refine box_event ?hg (N := 11) ?hd (cs := #[.string s, .int .i64 0]) (t := 75) ?hr ?_; (case hd => rfl); (case hg => rfl); (case hr => kernel_rfl); intro g hgg w1 hbox hbb; have HX1 := Lib.hid ((hbb.block _ (lt_at2 HX0.out)).trans HX0.out); have HB1 := Lib.hid (HB0.out.trans (hbb.mono HB0.out.size)); have HN2 : Hid (w.heap.size ≠ g) := Lib.hid (by have := lt_at2 HX0.out; omega); have HI1 : Hid (PDr.IsS75 w w1 g s 0) := Lib.hid ⟨hbox, by have := lt_at2 HX0.out; omega⟩; clear hgg hbox hbb HX0 HB0)
  refine (dnumber 9 (by decide) HI1.out HB1.out hs).mono ?_
  rintro e w2 ⟨rfl, hl⟩
  have za := rdNum_facts s 0 9 (by decide)
  obtain ⟨a, ha⟩ : ∃ x, x = rdNum s 0 9 := ⟨_, rfl⟩
  rw [← ha] at hl za hk ⊢
  have EA := Lib.hid ha
  have zaz := za.2.2
  rw [hk]
  have HK0 := Lib.hid hk
  clear ha hk za
  have h2 := blk_keep HX1.out hl.2.2 HN2.out
  have h3 := heap_alloc_new w2 (.cells #[(.int .i64 0), (.int .u32 0), (.int .u32 0), (.int .u64 0), (.int .u32 0), (.int .u64 0), (.int .u32 0), (.int .u64 0), (.int .u32 0), (.string ⟨#[]⟩), (.int .u8 0), (.bool false), (.slice none 0 0)] 30)
  have hg1 := lt_at2 hl.1.1
  have h22 := lt_at2 h2
  have HA : Hid (PUt w g w.heap.size w2.heap.size) := Lib.hid ⟨Nat.le_refl _, by have := hl.2.1.size; omega, HN2.out, by omega, by omega⟩
  have HS1 : Hid (QSu w g w.heap.size w2.heap.size #[(.int .i64 0), (.int .u32 0), (.int .u32 0), (.int .u64 0), (.int .u32 0), (.int .u64 0), (.int .u32 0), (.int .u64 0), (.int .u32 0), (.string ⟨#[]⟩), (.int .u8 0), (.bool false), (.slice none 0 0)] a.2.1 a.2.2 #[(.int .i64 0), (.int .u32 0), (.int .u32 0), (.int .u64 0), (.int .u32 0), (.int .u64 0), (.int .u32 0), (.int .u64 0), (.int .u32 0), (.string ⟨#[]⟩), (.int .u8 0), (.bool false), (.slice none 0 0)] (w2.alloc (.cells #[(.int .i64 0), (.int .u32 0), (.int .u32 0), (.int .u64 0), (.int .u32 0), (.int .u64 0), (.int .u32 0), (.int .u64 0), (.int .u32 0), (.string ⟨#[]⟩), (.int .u8 0), (.bool false), (.slice none 0 0)] 30))) := Lib.hid ⟨hl.1.alloc _, below_alloc' hl.2.1 _, blk_alloc h2 _, h3⟩
  clear hl h2 h3 hg1 h22 HX1 HN2 HI1 HB1
  go_wp2_with ((with_reducible refine gate_store (t := 30) (p := 5) (v := .tmp 15) rfl ?_); refine store_ev2 (P := Try.prog) rfl 30 (.tmp 5) (.tmp 15) rfl rfl w2.heap.size 0 (.agg #[(.int .i64 3), (.int .u32 0), (.int .u32 0), (.int .u64 0), (.int .u32 0), (.int .u64 0), (.int .u32 0), (.int .u64 0), (.int .u32 0), (.string ⟨#[]⟩), (.int .u8 0), (.bool false), (.slice none 0 0)]) #[(.int .i64 3), (.int .u32 0), (.int .u32 0), (.int .u64 0), (.int .u32 0), (.int .u64 0), (.int .u32 0), (.int .u64 0), (.int .u32 0), (.string ⟨#[]⟩), (.int .u8 0), (.bool false), (.slice none 0 0)] rfl rfl rfl 30 _ #[(.int .i64 3), (.int .u32 0), (.int .u32 0), (.int .u64 0), (.int .u32 0), (.int .u64 0), (.int .u32 0), (.int .u64 0), (.int .u32 0), (.string ⟨#[]⟩), (.int .u8 0), (.bool false), (.slice none 0 0)] HS1.out.q (by kernel_rfl) (by show 0 + 13 ≤ 13; decide) (by kernel_rfl) (by kernel_rfl) ?_; intro w2s hq hk hb; have HS2 := Lib.hid (HS1.out.store HA.out hq hk hb); have x0 := (blk_cell HS2.out.q 0).trans (show _ = some (.int .i64 3) from rfl); clear hq hk hb)
  clear HS1
  generalize w2.heap.size = b3 at *
  clear x0
  refine (dnumber 4294967295 (by decide) HS2.out.i HS2.out.b (by omega)).mono ?_
  rintro e w3c ⟨rfl, hl⟩
  have zb := rdNum_facts a.2.1 a.2.2 4294967295 (by decide)
  obtain ⟨b, hb⟩ : ∃ x, x = rdNum a.2.1 a.2.2 4294967295 := ⟨_, rfl⟩
  rw [← hb] at hl zb ⊢
  have EB := Lib.hid hb
  clear hb
  have HS3 := Lib.hid (HS2.out.call HA.out hl)
  clear hl HS2 
  have x0 := (blk_cell HS3.out.q 0).trans (show _ = some (.int .i64 3) from rfl)
  have hwb : b.1 % 4294967296 = b.1 := Int.emod_eq_of_lt zb.1 (by omega)
  go_wp2_with ((with_reducible refine gate_store (t := 22) (p := 28) (v := .tmp 26) rfl ?_); refine store_ev2 (P := Try.prog) rfl 22 (.tmp 28) (.tmp 26) rfl rfl b3 1 (.int .u32 b.1) #[(.int .u32 b.1)] rfl rfl rfl 30 _ #[(.int .i64 3), (.int .u32 b.1), (.int .u32 0), (.int .u64 0), (.int .u32 0), (.int .u64 0), (.int .u32 0), (.int .u64 0), (.int .u32 0), (.string ⟨#[]⟩), (.int .u8 0), (.bool false), (.slice none 0 0)] HS3.out.q (by kernel_rfl) (by show 1 + 1 ≤ 13; decide) (by kernel_rfl) (by kernel_rfl) ?_; intro w4s hq hk hb; clear x0; have HS4 := Lib.hid (HS3.out.store HA.out hq hk hb); have x0 := (blk_cell HS4.out.q 0).trans (show _ = some (.int .i64 3) from rfl); clear hq hk hb)
  clear HS3 
  clear x0
  refine (dnumber 4294967295 (by decide) HS4.out.i HS4.out.b (by omega)).mono ?_
  rintro e w5c ⟨rfl, hl⟩
  have zb0 := rdNum_facts b.2.1 b.2.2 4294967295 (by decide)
  obtain ⟨b0, hb0⟩ : ∃ x, x = rdNum b.2.1 b.2.2 4294967295 := ⟨_, rfl⟩
  rw [← hb0] at hl zb0 ⊢
  have EB0 := Lib.hid hb0
  clear hb0
  have HS5 := Lib.hid (HS4.out.call HA.out hl)
  clear hl HS4 
  have x0 := (blk_cell HS5.out.q 0).trans (show _ = some (.int .i64 3) from rfl)
  have hwb0 : b0.1 % 4294967296 = b0.1 := Int.emod_eq_of_lt zb0.1 (by omega)
  go_wp2_with ((with_reducible refine gate_store (t := 22) (p := 33) (v := .tmp 31) rfl ?_); refine store_ev2 (P := Try.prog) rfl 22 (.tmp 33) (.tmp 31) rfl rfl b3 2 (.int .u32 b0.1) #[(.int .u32 b0.1)] rfl rfl rfl 30 _ #[(.int .i64 3), (.int .u32 b.1), (.int .u32 b0.1), (.int .u64 0), (.int .u32 0), (.int .u64 0), (.int .u32 0), (.int .u64 0), (.int .u32 0), (.string ⟨#[]⟩), (.int .u8 0), (.bool false), (.slice none 0 0)] HS5.out.q (by kernel_rfl) (by show 2 + 1 ≤ 13; decide) (by kernel_rfl) (by kernel_rfl) ?_; intro w6s hq hk hb; clear x0; have HS6 := Lib.hid (HS5.out.store HA.out hq hk hb); have x0 := (blk_cell HS6.out.q 0).trans (show _ = some (.int .i64 3) from rfl); clear hq hk hb)
  clear HS5 
  clear x0
  refine (dstamp HS6.out.i HS6.out.b (by omega)).mono ?_
  rintro e w7c ⟨rfl, hl⟩
  have zc := stamp_sz b0.2.1 b0.2.2
  obtain ⟨c, hc⟩ : ∃ x, x = rdStamp b0.2.1 b0.2.2 := ⟨_, rfl⟩
  rw [← hc] at hl zc ⊢
  have EC := Lib.hid hc
  clear hc
  have HS7 := Lib.hid (HS6.out.call HA.out hl)
  clear hl HS6 
  have x0 := (blk_cell HS7.out.q 0).trans (show _ = some (.int .i64 3) from rfl)
  go_wp2_with ((with_reducible refine gate_store (t := 27) (p := 54) (v := .tmp 53) rfl ?_); refine store_ev2 (P := Try.prog) rfl 27 (.tmp 54) (.tmp 53) rfl rfl b3 3 (.agg #[.int .u64 c.1, .int .u32 c.2.1]) #[(.int .u64 c.1), (.int .u32 c.2.1)] rfl rfl rfl 30 _ #[(.int .i64 3), (.int .u32 b.1), (.int .u32 b0.1), (.int .u64 c.1), (.int .u32 c.2.1), (.int .u64 0), (.int .u32 0), (.int .u64 0), (.int .u32 0), (.string ⟨#[]⟩), (.int .u8 0), (.bool false), (.slice none 0 0)] HS7.out.q (by kernel_rfl) (by show 3 + 2 ≤ 13; decide) (by kernel_rfl) (by kernel_rfl) ?_; intro w8s hq hk hb; clear x0; have HS8 := Lib.hid (HS7.out.store HA.out hq hk hb); have x0 := (blk_cell HS8.out.q 0).trans (show _ = some (.int .i64 3) from rfl); clear hq hk hb)
  clear HS7 
  clear x0
  refine (dstamp HS8.out.i HS8.out.b (by omega)).mono ?_
  rintro e w9c ⟨rfl, hl⟩
  have zf := stamp_sz c.2.2.1 c.2.2.2
  obtain ⟨f, hf⟩ : ∃ x, x = rdStamp c.2.2.1 c.2.2.2 := ⟨_, rfl⟩
  rw [← hf] at hl zf ⊢
  have EF := Lib.hid hf
  clear hf
  have HS9 := Lib.hid (HS8.out.call HA.out hl)
  clear hl HS8 
  have x0 := (blk_cell HS9.out.q 0).trans (show _ = some (.int .i64 3) from rfl)
  go_wp2_with ((with_reducible refine gate_store (t := 27) (p := 75) (v := .tmp 74) rfl ?_); refine store_ev2 (P := Try.prog) rfl 27 (.tmp 75) (.tmp 74) rfl rfl b3 5 (.agg #[.int .u64 f.1, .int .u32 f.2.1]) #[(.int .u64 f.1), (.int .u32 f.2.1)] rfl rfl rfl 30 _ #[(.int .i64 3), (.int .u32 b.1), (.int .u32 b0.1), (.int .u64 c.1), (.int .u32 c.2.1), (.int .u64 f.1), (.int .u32 f.2.1), (.int .u64 0), (.int .u32 0), (.string ⟨#[]⟩), (.int .u8 0), (.bool false), (.slice none 0 0)] HS9.out.q (by kernel_rfl) (by show 5 + 2 ≤ 13; decide) (by kernel_rfl) (by kernel_rfl) ?_; intro w10s hq hk hb; clear x0; have HS10 := Lib.hid (HS9.out.store HA.out hq hk hb); have x0 := (blk_cell HS10.out.q 0).trans (show _ = some (.int .i64 3) from rfl); clear hq hk hb)
  clear HS9 
  go_loop [7] (fun i => i = .int .i64 0) (fun _ => 1)
  case atStart => rfl
  case round =>
  subst hrel
  go_wp2_with fail
  clear x0
  refine (dnumber 255 (by decide) HS10.out.i HS10.out.b (by omega)).mono ?_
  rintro e w11c ⟨rfl, hl⟩
  have zm := rdNum_facts f.2.2.1 f.2.2.2 255 (by decide)
  obtain ⟨m, hm⟩ : ∃ x, x = rdNum f.2.2.1 f.2.2.2 255 := ⟨_, rfl⟩
  rw [← hm] at hl zm ⊢
  have EM := Lib.hid hm
  clear hm
  have HS11 := Lib.hid (HS10.out.call HA.out hl)
  clear hl HS10 
  have x0 := (blk_cell HS11.out.q 0).trans (show _ = some (.int .i64 3) from rfl)
  have hwm : m.1 % 256 = m.1 := Int.emod_eq_of_lt zm.1 (by omega)
  go_wp2_with ((with_reducible refine gate_store (t := 5) (p := 112) (v := .tmp 111) rfl ?_); refine store_ev2 (P := Try.prog) rfl 5 (.tmp 112) (.tmp 111) rfl rfl b3 10 (.int .u8 m.1) #[(.int .u8 m.1)] rfl rfl rfl 30 _ #[(.int .i64 3), (.int .u32 b.1), (.int .u32 b0.1), (.int .u64 c.1), (.int .u32 c.2.1), (.int .u64 f.1), (.int .u32 f.2.1), (.int .u64 0), (.int .u32 0), (.string ⟨#[]⟩), (.int .u8 m.1), (.bool false), (.slice none 0 0)] HS11.out.q (by kernel_rfl) (by show 10 + 1 ≤ 13; decide) (by kernel_rfl) (by kernel_rfl) ?_; intro w12s hq hk hb; clear x0; have HS12 := Lib.hid (HS11.out.store HA.out hq hk hb); have x0 := (blk_cell HS12.out.q 0).trans (show _ = some (.int .i64 3) from rfl); clear hq hk hb)
  clear HS11 
  clear x0
  refine (dend HS12.out.i HS12.out.b).mono ?_
  rintro e w13c ⟨rfl, hl⟩
  have HS13 := Lib.hid (HS12.out.call HA.out hl)
  clear hl HS12 
  obtain ⟨en, hen⟩ : ∃ en, en = rdEnd m.2.1 m.2.2 := ⟨_, rfl⟩
  rw [← hen]
  have HEN := Lib.hid hen
  clear hen
  have HRD : Hid (readE s = if en = 0 then (if rightE ⟨3, b.1, b0.1, c.1, c.2.1, f.1, f.2.1, 0, 0, ⟨#[]⟩, m.1, false, []⟩ = true then (⟨3, b.1, b0.1, c.1, c.2.1, f.1, f.2.1, 0, 0, ⟨#[]⟩, m.1, false, []⟩, 0) else (zE, 2)) else (zE, 2)) := Lib.hid (by
    have hp : rdE s = (⟨3, b.1, b0.1, c.1, c.2.1, f.1, f.2.1, 0, 0, ⟨#[]⟩, m.1, false, []⟩, m.2.1, m.2.2) := by
      unfold rdE rdTail orX rdX
      rw [← EA.out, HK0.out]
      simp [hB, hS, hM, hA, hW, hT, hD, lstR, ← EB.out, ← EB0.out, ← EC.out, ← EF.out, ← EM.out]
    unfold readE
    rw [hp, ← HEN.out])
  have HOK : Hid (EOk ⟨3, b.1, b0.1, c.1, c.2.1, f.1, f.2.1, 0, 0, ⟨#[]⟩, m.1, false, []⟩) := Lib.hid (by
    have hp : (rdTail 3 a.2.1 a.2.2).1 = ⟨3, b.1, b0.1, c.1, c.2.1, f.1, f.2.1, 0, 0, ⟨#[]⟩, m.1, false, []⟩ := by
      unfold rdTail orX rdX
      simp [hB, hS, hM, hA, hW, hT, hD, lstR, ← EB.out, ← EB0.out, ← EC.out, ← EF.out, ← EM.out]
    rw [← hp]
    exact tailOk _ (by decide) _ _)
  rcases (show en = 0 ∨ en ≠ 0 from by omega) with he | he
  · subst he
    have HCC : Hid (EnIn w13c ⟨3, b.1, b0.1, c.1, c.2.1, f.1, f.2.1, 0, 0, ⟨#[]⟩, m.1, false, []⟩ none 0) := Lib.hid ⟨Kd.C_nil _ _, Nat.le_refl _⟩
    cases hri : rightE ⟨3, b.1, b0.1, c.1, c.2.1, f.1, f.2.1, 0, 0, ⟨#[]⟩, m.1, false, []⟩ with
    | false =>
      have HR2 : Hid (readE s = (zE, 2)) := Lib.hid (by rw [HRD.out, if_pos rfl, if_neg (by rw [hri]; decide)])
      have HRI := Lib.hid ((rright_calls ⟨3, b.1, b0.1, c.1, c.2.1, f.1, f.2.1, 0, 0, ⟨#[]⟩, m.1, false, []⟩ none 0 w13c HCC.out HOK.out.ws).mono fun rr w' (h : rr = .returned (.bool (rightE ⟨3, b.1, b0.1, c.1, c.2.1, f.1, f.2.1, 0, 0, ⟨#[]⟩, m.1, false, []⟩)) ∧ Below w13c.heap.size w13c w') => (⟨by rw [h.1, hri], h.2⟩ : rr = .returned (.bool false) ∧ Below w13c.heap.size w13c w'))
      have HRV := Lib.hid hri
      clear hri
      go_wp2_with (first | ((with_reducible refine gate_dst (N := 123) rfl ?_); refine wpList_load_row rfl 30 (.tmp 5) rfl b3 rfl 30 _ (0, 0) _ HS13.out.q Try.underlying30 rfl (by kernel_rfl) ?_) | ((with_reducible refine gate_dst (N := 123) rfl ?_); refine gate_guard (by rfl) ?_; refine wpList_load_row rfl 30 (.tmp 5) rfl b3 rfl 30 _ (0, 0) _ HS13.out.q Try.underlying30 rfl (by kernel_rfl) ?_))
      refine HRI.out.mono ?_
      rintro e wz ⟨rfl, hBr⟩
      have HSr := Lib.hid (HS13.out.below hBr)
      clear hBr
      go_wp2_with ((with_reducible refine gate_store (t := 30) (p := 2) (v := .tmp 127) rfl ?_); refine store_ev2 (P := Try.prog) rfl 30 (.tmp 2) (.tmp 127) rfl rfl w.heap.size 0 (.agg #[(.int .i64 0), (.int .u32 0), (.int .u32 0), (.int .u64 0), (.int .u32 0), (.int .u64 0), (.int .u32 0), (.int .u64 0), (.int .u32 0), (.string ⟨#[]⟩), (.int .u8 0), (.bool false), (.slice none 0 0)]) #[(.int .i64 0), (.int .u32 0), (.int .u32 0), (.int .u64 0), (.int .u32 0), (.int .u64 0), (.int .u32 0), (.int .u64 0), (.int .u32 0), (.string ⟨#[]⟩), (.int .u8 0), (.bool false), (.slice none 0 0)] rfl rfl rfl 30 _ #[(.int .i64 0), (.int .u32 0), (.int .u32 0), (.int .u64 0), (.int .u32 0), (.int .u64 0), (.int .u32 0), (.int .u64 0), (.int .u32 0), (.string ⟨#[]⟩), (.int .u8 0), (.bool false), (.slice none 0 0)] HSr.out.z (by kernel_rfl) (by show 0 + 13 ≤ 13; decide) (by kernel_rfl) (by kernel_rfl) ?_; intro w19 hq hk hb; have HZ9 := Lib.hid hq; have HB9 := Lib.hid (hb _ _ HA.out.a HSr.out.b); clear hq hk hb)
      refine bodyPost_ret (results_ct rfl _ _ w.heap.size 30 _ (0, 0) _ rfl HZ9.out Try.underlying30 rfl (by kernel_rfl)) rfl ?_
      exact ⟨none, 0, by rw [HR2.out]; rfl, by rw [HR2.out]; exact Kd.C_nil _ _, by rw [HR2.out]; exact Nat.le_refl _, HB9.out⟩
    | true =>
      have HR2 : Hid (readE s = (⟨3, b.1, b0.1, c.1, c.2.1, f.1, f.2.1, 0, 0, ⟨#[]⟩, m.1, false, []⟩, 0)) := Lib.hid (by rw [HRD.out, if_pos rfl, if_pos hri])
      have HRI := Lib.hid ((rright_calls ⟨3, b.1, b0.1, c.1, c.2.1, f.1, f.2.1, 0, 0, ⟨#[]⟩, m.1, false, []⟩ none 0 w13c HCC.out HOK.out.ws).mono fun rr w' (h : rr = .returned (.bool (rightE ⟨3, b.1, b0.1, c.1, c.2.1, f.1, f.2.1, 0, 0, ⟨#[]⟩, m.1, false, []⟩)) ∧ Below w13c.heap.size w13c w') => (⟨by rw [h.1, hri], h.2⟩ : rr = .returned (.bool true) ∧ Below w13c.heap.size w13c w'))
      have HRV := Lib.hid hri
      clear hri
      go_wp2_with (first | ((with_reducible refine gate_dst (N := 123) rfl ?_); refine wpList_load_row rfl 30 (.tmp 5) rfl b3 rfl 30 _ (0, 0) _ HS13.out.q Try.underlying30 rfl (by kernel_rfl) ?_) | ((with_reducible refine gate_dst (N := 123) rfl ?_); refine gate_guard (by rfl) ?_; refine wpList_load_row rfl 30 (.tmp 5) rfl b3 rfl 30 _ (0, 0) _ HS13.out.q Try.underlying30 rfl (by kernel_rfl) ?_))
      refine HRI.out.mono ?_
      rintro e wz ⟨rfl, hBr⟩
      have HSr := Lib.hid (HS13.out.below hBr)
      clear hBr
      go_wp2_with (first | ((with_reducible refine gate_dst (N := 128) rfl ?_); refine wpList_load_row rfl 30 (.tmp 5) rfl b3 rfl 30 _ (0, 0) _ HSr.out.q Try.underlying30 rfl (by kernel_rfl) ?_) | ((with_reducible refine gate_store (t := 30) (p := 2) (v := .tmp 128) rfl ?_); refine store_ev2 (P := Try.prog) rfl 30 (.tmp 2) (.tmp 128) rfl rfl w.heap.size 0 (.agg #[(.int .i64 3), (.int .u32 b.1), (.int .u32 b0.1), (.int .u64 c.1), (.int .u32 c.2.1), (.int .u64 f.1), (.int .u32 f.2.1), (.int .u64 0), (.int .u32 0), (.string ⟨#[]⟩), (.int .u8 m.1), (.bool false), (.slice none 0 0)]) #[(.int .i64 3), (.int .u32 b.1), (.int .u32 b0.1), (.int .u64 c.1), (.int .u32 c.2.1), (.int .u64 f.1), (.int .u32 f.2.1), (.int .u64 0), (.int .u32 0), (.string ⟨#[]⟩), (.int .u8 m.1), (.bool false), (.slice none 0 0)] rfl rfl rfl 30 _ #[(.int .i64 3), (.int .u32 b.1), (.int .u32 b0.1), (.int .u64 c.1), (.int .u32 c.2.1), (.int .u64 f.1), (.int .u32 f.2.1), (.int .u64 0), (.int .u32 0), (.string ⟨#[]⟩), (.int .u8 m.1), (.bool false), (.slice none 0 0)] HSr.out.z (by kernel_rfl) (by show 0 + 13 ≤ 13; decide) (by kernel_rfl) (by kernel_rfl) ?_; intro w19 hq hk hb; have HZ9 := Lib.hid hq; have HB9 := Lib.hid (hb _ _ HA.out.a HSr.out.b); clear hq hk hb))
      refine bodyPost_ret (results_ct rfl _ _ w.heap.size 30 _ (0, 0) _ rfl HZ9.out Try.underlying30 rfl (by kernel_rfl)) rfl ?_
      exact ⟨none, 0, by rw [HR2.out]; rfl, by rw [HR2.out]; exact Kd.C_nil _ _, by rw [HR2.out]; exact Nat.le_refl _, HB9.out⟩
  · have HR2 : Hid (readE s = (zE, 2)) := Lib.hid (by rw [HRD.out, if_neg he])
    have heb : (en == 0) = false := by simpa using he
    have heb2 : (en != 0) = true := by simpa using he
    go_wp2_with ((with_reducible refine gate_store (t := 30) (p := 2) (v := .tmp 127) rfl ?_); refine store_ev2 (P := Try.prog) rfl 30 (.tmp 2) (.tmp 127) rfl rfl w.heap.size 0 (.agg #[(.int .i64 0), (.int .u32 0), (.int .u32 0), (.int .u64 0), (.int .u32 0), (.int .u64 0), (.int .u32 0), (.int .u64 0), (.int .u32 0), (.string ⟨#[]⟩), (.int .u8 0), (.bool false), (.slice none 0 0)]) #[(.int .i64 0), (.int .u32 0), (.int .u32 0), (.int .u64 0), (.int .u32 0), (.int .u64 0), (.int .u32 0), (.int .u64 0), (.int .u32 0), (.string ⟨#[]⟩), (.int .u8 0), (.bool false), (.slice none 0 0)] rfl rfl rfl 30 _ #[(.int .i64 0), (.int .u32 0), (.int .u32 0), (.int .u64 0), (.int .u32 0), (.int .u64 0), (.int .u32 0), (.int .u64 0), (.int .u32 0), (.string ⟨#[]⟩), (.int .u8 0), (.bool false), (.slice none 0 0)] HS13.out.z (by kernel_rfl) (by show 0 + 13 ≤ 13; decide) (by kernel_rfl) (by kernel_rfl) ?_; intro w19 hq hk hb; have HZ9 := Lib.hid hq; have HB9 := Lib.hid (hb _ _ HA.out.a HS13.out.b); clear hq hk hb)
    refine bodyPost_ret (results_ct rfl _ _ w.heap.size 30 _ (0, 0) _ rfl HZ9.out Try.underlying30 rfl (by kernel_rfl)) rfl ?_
    exact ⟨none, 0, by rw [HR2.out]; rfl, by rw [HR2.out]; exact Kd.C_nil _ _, by rw [HR2.out]; exact Nat.le_refl _, HB9.out⟩
set_option maxRecDepth 100000 in
set_option maxHeartbeats 16000000 in
theorem dread_4 (s : ByteArray) (hs : s.size ≤ 9223372036854775807) (w : World) (hk : (rdNum s 0 9).1 = 4) : Calls Try.prog 13 #[.string s] w (ReadP s w) := by
  have HX0 := Lib.hid (heap_alloc_new w (.cells #[(.int .i64 0), (.int .u32 0), (.int .u32 0), (.int .u64 0), (.int .u32 0), (.int .u64 0), (.int .u32 0), (.int .u64 0), (.int .u32 0), (.string ⟨#[]⟩), (.int .u8 0), (.bool false), (.slice none 0 0)] 30))
  have HB0 := Lib.hid (below_alloc' (Below.refl _ w) (.cells #[(.int .i64 0), (.int .u32 0), (.int .u32 0), (.int .u64 0), (.int .u32 0), (.int .u64 0), (.int .u32 0), (.int .u64 0), (.int .u32 0), (.string ⟨#[]⟩), (.int .u8 0), (.bool false), (.slice none 0 0)] 30))
  go_enter Try.func13, Try.ntmps13
  go_wp2_with ((with_reducible refine gate_dst (N := 11) rfl ?_); refine box_event ?hg (N := 11) ?hd (cs := #[.string s, .int .i64 0]) (t := 75) ?hr ?_; (case hd => rfl); (case hg => rfl); (case hr => kernel_rfl); intro g hgg w1 hbox hbb; have HX1 := Lib.hid ((hbb.block _ (lt_at2 HX0.out)).trans HX0.out); have HB1 := Lib.hid (HB0.out.trans (hbb.mono HB0.out.size)); have HN2 : Hid (w.heap.size ≠ g) := Lib.hid (by have := lt_at2 HX0.out; omega); have HI1 : Hid (PDr.IsS75 w w1 g s 0) := Lib.hid ⟨hbox, by have := lt_at2 HX0.out; omega⟩; clear hgg hbox hbb HX0 HB0)
  refine (dnumber 9 (by decide) HI1.out HB1.out hs).mono ?_
  rintro e w2 ⟨rfl, hl⟩
  have za := rdNum_facts s 0 9 (by decide)
  obtain ⟨a, ha⟩ : ∃ x, x = rdNum s 0 9 := ⟨_, rfl⟩
  rw [← ha] at hl za hk ⊢
  have EA := Lib.hid ha
  have zaz := za.2.2
  rw [hk]
  have HK0 := Lib.hid hk
  clear ha hk za
  have h2 := blk_keep HX1.out hl.2.2 HN2.out
  have h3 := heap_alloc_new w2 (.cells #[(.int .i64 0), (.int .u32 0), (.int .u32 0), (.int .u64 0), (.int .u32 0), (.int .u64 0), (.int .u32 0), (.int .u64 0), (.int .u32 0), (.string ⟨#[]⟩), (.int .u8 0), (.bool false), (.slice none 0 0)] 30)
  have hg1 := lt_at2 hl.1.1
  have h22 := lt_at2 h2
  have HA : Hid (PUt w g w.heap.size w2.heap.size) := Lib.hid ⟨Nat.le_refl _, by have := hl.2.1.size; omega, HN2.out, by omega, by omega⟩
  have HS1 : Hid (QSu w g w.heap.size w2.heap.size #[(.int .i64 0), (.int .u32 0), (.int .u32 0), (.int .u64 0), (.int .u32 0), (.int .u64 0), (.int .u32 0), (.int .u64 0), (.int .u32 0), (.string ⟨#[]⟩), (.int .u8 0), (.bool false), (.slice none 0 0)] a.2.1 a.2.2 #[(.int .i64 0), (.int .u32 0), (.int .u32 0), (.int .u64 0), (.int .u32 0), (.int .u64 0), (.int .u32 0), (.int .u64 0), (.int .u32 0), (.string ⟨#[]⟩), (.int .u8 0), (.bool false), (.slice none 0 0)] (w2.alloc (.cells #[(.int .i64 0), (.int .u32 0), (.int .u32 0), (.int .u64 0), (.int .u32 0), (.int .u64 0), (.int .u32 0), (.int .u64 0), (.int .u32 0), (.string ⟨#[]⟩), (.int .u8 0), (.bool false), (.slice none 0 0)] 30))) := Lib.hid ⟨hl.1.alloc _, below_alloc' hl.2.1 _, blk_alloc h2 _, h3⟩
  clear hl h2 h3 hg1 h22 HX1 HN2 HI1 HB1
  go_wp2_with ((with_reducible refine gate_store (t := 30) (p := 5) (v := .tmp 15) rfl ?_); refine store_ev2 (P := Try.prog) rfl 30 (.tmp 5) (.tmp 15) rfl rfl w2.heap.size 0 (.agg #[(.int .i64 4), (.int .u32 0), (.int .u32 0), (.int .u64 0), (.int .u32 0), (.int .u64 0), (.int .u32 0), (.int .u64 0), (.int .u32 0), (.string ⟨#[]⟩), (.int .u8 0), (.bool false), (.slice none 0 0)]) #[(.int .i64 4), (.int .u32 0), (.int .u32 0), (.int .u64 0), (.int .u32 0), (.int .u64 0), (.int .u32 0), (.int .u64 0), (.int .u32 0), (.string ⟨#[]⟩), (.int .u8 0), (.bool false), (.slice none 0 0)] rfl rfl rfl 30 _ #[(.int .i64 4), (.int .u32 0), (.int .u32 0), (.int .u64 0), (.int .u32 0), (.int .u64 0), (.int .u32 0), (.int .u64 0), (.int .u32 0), (.string ⟨#[]⟩), (.int .u8 0), (.bool false), (.slice none 0 0)] HS1.out.q (by kernel_rfl) (by show 0 + 13 ≤ 13; decide) (by kernel_rfl) (by kernel_rfl) ?_; intro w2s hq hk hb; have HS2 := Lib.hid (HS1.out.store HA.out hq hk hb); have x0 := (blk_cell HS2.out.q 0).trans (show _ = some (.int .i64 4) from rfl); clear hq hk hb)
  clear HS1
  generalize w2.heap.size = b3 at *
  clear x0
  refine (dnumber 4294967295 (by decide) HS2.out.i HS2.out.b (by omega)).mono ?_
  rintro e w3c ⟨rfl, hl⟩
  have zb := rdNum_facts a.2.1 a.2.2 4294967295 (by decide)
  obtain ⟨b, hb⟩ : ∃ x, x = rdNum a.2.1 a.2.2 4294967295 := ⟨_, rfl⟩
  rw [← hb] at hl zb ⊢
  have EB := Lib.hid hb
  clear hb
  have HS3 := Lib.hid (HS2.out.call HA.out hl)
  clear hl HS2 
  have x0 := (blk_cell HS3.out.q 0).trans (show _ = some (.int .i64 4) from rfl)
  have hwb : b.1 % 4294967296 = b.1 := Int.emod_eq_of_lt zb.1 (by omega)
  go_wp2_with ((with_reducible refine gate_store (t := 22) (p := 28) (v := .tmp 26) rfl ?_); refine store_ev2 (P := Try.prog) rfl 22 (.tmp 28) (.tmp 26) rfl rfl b3 1 (.int .u32 b.1) #[(.int .u32 b.1)] rfl rfl rfl 30 _ #[(.int .i64 4), (.int .u32 b.1), (.int .u32 0), (.int .u64 0), (.int .u32 0), (.int .u64 0), (.int .u32 0), (.int .u64 0), (.int .u32 0), (.string ⟨#[]⟩), (.int .u8 0), (.bool false), (.slice none 0 0)] HS3.out.q (by kernel_rfl) (by show 1 + 1 ≤ 13; decide) (by kernel_rfl) (by kernel_rfl) ?_; intro w4s hq hk hb; clear x0; have HS4 := Lib.hid (HS3.out.store HA.out hq hk hb); have x0 := (blk_cell HS4.out.q 0).trans (show _ = some (.int .i64 4) from rfl); clear hq hk hb)
  clear HS3 
  clear x0
  refine (dnumber 4294967295 (by decide) HS4.out.i HS4.out.b (by omega)).mono ?_
  rintro e w5c ⟨rfl, hl⟩
  have zb0 := rdNum_facts b.2.1 b.2.2 4294967295 (by decide)
  obtain ⟨b0, hb0⟩ : ∃ x, x = rdNum b.2.1 b.2.2 4294967295 := ⟨_, rfl⟩
  rw [← hb0] at hl zb0 ⊢
  have EB0 := Lib.hid hb0
  clear hb0
  have HS5 := Lib.hid (HS4.out.call HA.out hl)
  clear hl HS4 
  have x0 := (blk_cell HS5.out.q 0).trans (show _ = some (.int .i64 4) from rfl)
  have hwb0 : b0.1 % 4294967296 = b0.1 := Int.emod_eq_of_lt zb0.1 (by omega)
  go_wp2_with ((with_reducible refine gate_store (t := 22) (p := 33) (v := .tmp 31) rfl ?_); refine store_ev2 (P := Try.prog) rfl 22 (.tmp 33) (.tmp 31) rfl rfl b3 2 (.int .u32 b0.1) #[(.int .u32 b0.1)] rfl rfl rfl 30 _ #[(.int .i64 4), (.int .u32 b.1), (.int .u32 b0.1), (.int .u64 0), (.int .u32 0), (.int .u64 0), (.int .u32 0), (.int .u64 0), (.int .u32 0), (.string ⟨#[]⟩), (.int .u8 0), (.bool false), (.slice none 0 0)] HS5.out.q (by kernel_rfl) (by show 2 + 1 ≤ 13; decide) (by kernel_rfl) (by kernel_rfl) ?_; intro w6s hq hk hb; clear x0; have HS6 := Lib.hid (HS5.out.store HA.out hq hk hb); have x0 := (blk_cell HS6.out.q 0).trans (show _ = some (.int .i64 4) from rfl); clear hq hk hb)
  clear HS5 
  clear x0
  refine (dstamp HS6.out.i HS6.out.b (by omega)).mono ?_
  rintro e w7c ⟨rfl, hl⟩
  have zf := stamp_sz b0.2.1 b0.2.2
  obtain ⟨f, hf⟩ : ∃ x, x = rdStamp b0.2.1 b0.2.2 := ⟨_, rfl⟩
  rw [← hf] at hl zf ⊢
  have EF := Lib.hid hf
  clear hf
  have HS7 := Lib.hid (HS6.out.call HA.out hl)
  clear hl HS6 
  have x0 := (blk_cell HS7.out.q 0).trans (show _ = some (.int .i64 4) from rfl)
  go_wp2_with ((with_reducible refine gate_store (t := 27) (p := 75) (v := .tmp 74) rfl ?_); refine store_ev2 (P := Try.prog) rfl 27 (.tmp 75) (.tmp 74) rfl rfl b3 5 (.agg #[.int .u64 f.1, .int .u32 f.2.1]) #[(.int .u64 f.1), (.int .u32 f.2.1)] rfl rfl rfl 30 _ #[(.int .i64 4), (.int .u32 b.1), (.int .u32 b0.1), (.int .u64 0), (.int .u32 0), (.int .u64 f.1), (.int .u32 f.2.1), (.int .u64 0), (.int .u32 0), (.string ⟨#[]⟩), (.int .u8 0), (.bool false), (.slice none 0 0)] HS7.out.q (by kernel_rfl) (by show 5 + 2 ≤ 13; decide) (by kernel_rfl) (by kernel_rfl) ?_; intro w8s hq hk hb; clear x0; have HS8 := Lib.hid (HS7.out.store HA.out hq hk hb); have x0 := (blk_cell HS8.out.q 0).trans (show _ = some (.int .i64 4) from rfl); clear hq hk hb)
  clear HS7 
  go_loop [7] (fun i => i = .int .i64 0) (fun _ => 1)
  case atStart => rfl
  case round =>
  subst hrel
  go_wp2_with fail
  clear x0
  refine (dend HS8.out.i HS8.out.b).mono ?_
  rintro e w9c ⟨rfl, hl⟩
  have HS9 := Lib.hid (HS8.out.call HA.out hl)
  clear hl HS8 
  obtain ⟨en, hen⟩ : ∃ en, en = rdEnd f.2.2.1 f.2.2.2 := ⟨_, rfl⟩
  rw [← hen]
  have HEN := Lib.hid hen
  clear hen
  have HRD : Hid (readE s = if en = 0 then (if rightE ⟨4, b.1, b0.1, 0, 0, f.1, f.2.1, 0, 0, ⟨#[]⟩, 0, false, []⟩ = true then (⟨4, b.1, b0.1, 0, 0, f.1, f.2.1, 0, 0, ⟨#[]⟩, 0, false, []⟩, 0) else (zE, 2)) else (zE, 2)) := Lib.hid (by
    have hp : rdE s = (⟨4, b.1, b0.1, 0, 0, f.1, f.2.1, 0, 0, ⟨#[]⟩, 0, false, []⟩, f.2.2.1, f.2.2.2) := by
      unfold rdE rdTail orX rdX
      rw [← EA.out, HK0.out]
      simp [hB, hS, hM, hA, hW, hT, hD, lstR, ← EB.out, ← EB0.out, ← EF.out]
    unfold readE
    rw [hp, ← HEN.out])
  have HOK : Hid (EOk ⟨4, b.1, b0.1, 0, 0, f.1, f.2.1, 0, 0, ⟨#[]⟩, 0, false, []⟩) := Lib.hid (by
    have hp : (rdTail 4 a.2.1 a.2.2).1 = ⟨4, b.1, b0.1, 0, 0, f.1, f.2.1, 0, 0, ⟨#[]⟩, 0, false, []⟩ := by
      unfold rdTail orX rdX
      simp [hB, hS, hM, hA, hW, hT, hD, lstR, ← EB.out, ← EB0.out, ← EF.out]
    rw [← hp]
    exact tailOk _ (by decide) _ _)
  rcases (show en = 0 ∨ en ≠ 0 from by omega) with he | he
  · subst he
    have HCC : Hid (EnIn w9c ⟨4, b.1, b0.1, 0, 0, f.1, f.2.1, 0, 0, ⟨#[]⟩, 0, false, []⟩ none 0) := Lib.hid ⟨Kd.C_nil _ _, Nat.le_refl _⟩
    cases hri : rightE ⟨4, b.1, b0.1, 0, 0, f.1, f.2.1, 0, 0, ⟨#[]⟩, 0, false, []⟩ with
    | false =>
      have HR2 : Hid (readE s = (zE, 2)) := Lib.hid (by rw [HRD.out, if_pos rfl, if_neg (by rw [hri]; decide)])
      have HRI := Lib.hid ((rright_calls ⟨4, b.1, b0.1, 0, 0, f.1, f.2.1, 0, 0, ⟨#[]⟩, 0, false, []⟩ none 0 w9c HCC.out HOK.out.ws).mono fun rr w' (h : rr = .returned (.bool (rightE ⟨4, b.1, b0.1, 0, 0, f.1, f.2.1, 0, 0, ⟨#[]⟩, 0, false, []⟩)) ∧ Below w9c.heap.size w9c w') => (⟨by rw [h.1, hri], h.2⟩ : rr = .returned (.bool false) ∧ Below w9c.heap.size w9c w'))
      have HRV := Lib.hid hri
      clear hri
      go_wp2_with (first | ((with_reducible refine gate_dst (N := 123) rfl ?_); refine wpList_load_row rfl 30 (.tmp 5) rfl b3 rfl 30 _ (0, 0) _ HS9.out.q Try.underlying30 rfl (by kernel_rfl) ?_) | ((with_reducible refine gate_dst (N := 123) rfl ?_); refine gate_guard (by rfl) ?_; refine wpList_load_row rfl 30 (.tmp 5) rfl b3 rfl 30 _ (0, 0) _ HS9.out.q Try.underlying30 rfl (by kernel_rfl) ?_))
      refine HRI.out.mono ?_
      rintro e wz ⟨rfl, hBr⟩
      have HSr := Lib.hid (HS9.out.below hBr)
      clear hBr
      go_wp2_with ((with_reducible refine gate_store (t := 30) (p := 2) (v := .tmp 127) rfl ?_); refine store_ev2 (P := Try.prog) rfl 30 (.tmp 2) (.tmp 127) rfl rfl w.heap.size 0 (.agg #[(.int .i64 0), (.int .u32 0), (.int .u32 0), (.int .u64 0), (.int .u32 0), (.int .u64 0), (.int .u32 0), (.int .u64 0), (.int .u32 0), (.string ⟨#[]⟩), (.int .u8 0), (.bool false), (.slice none 0 0)]) #[(.int .i64 0), (.int .u32 0), (.int .u32 0), (.int .u64 0), (.int .u32 0), (.int .u64 0), (.int .u32 0), (.int .u64 0), (.int .u32 0), (.string ⟨#[]⟩), (.int .u8 0), (.bool false), (.slice none 0 0)] rfl rfl rfl 30 _ #[(.int .i64 0), (.int .u32 0), (.int .u32 0), (.int .u64 0), (.int .u32 0), (.int .u64 0), (.int .u32 0), (.int .u64 0), (.int .u32 0), (.string ⟨#[]⟩), (.int .u8 0), (.bool false), (.slice none 0 0)] HSr.out.z (by kernel_rfl) (by show 0 + 13 ≤ 13; decide) (by kernel_rfl) (by kernel_rfl) ?_; intro w19 hq hk hb; have HZ9 := Lib.hid hq; have HB9 := Lib.hid (hb _ _ HA.out.a HSr.out.b); clear hq hk hb)
      refine bodyPost_ret (results_ct rfl _ _ w.heap.size 30 _ (0, 0) _ rfl HZ9.out Try.underlying30 rfl (by kernel_rfl)) rfl ?_
      exact ⟨none, 0, by rw [HR2.out]; rfl, by rw [HR2.out]; exact Kd.C_nil _ _, by rw [HR2.out]; exact Nat.le_refl _, HB9.out⟩
    | true =>
      have HR2 : Hid (readE s = (⟨4, b.1, b0.1, 0, 0, f.1, f.2.1, 0, 0, ⟨#[]⟩, 0, false, []⟩, 0)) := Lib.hid (by rw [HRD.out, if_pos rfl, if_pos hri])
      have HRI := Lib.hid ((rright_calls ⟨4, b.1, b0.1, 0, 0, f.1, f.2.1, 0, 0, ⟨#[]⟩, 0, false, []⟩ none 0 w9c HCC.out HOK.out.ws).mono fun rr w' (h : rr = .returned (.bool (rightE ⟨4, b.1, b0.1, 0, 0, f.1, f.2.1, 0, 0, ⟨#[]⟩, 0, false, []⟩)) ∧ Below w9c.heap.size w9c w') => (⟨by rw [h.1, hri], h.2⟩ : rr = .returned (.bool true) ∧ Below w9c.heap.size w9c w'))
      have HRV := Lib.hid hri
      clear hri
      go_wp2_with (first | ((with_reducible refine gate_dst (N := 123) rfl ?_); refine wpList_load_row rfl 30 (.tmp 5) rfl b3 rfl 30 _ (0, 0) _ HS9.out.q Try.underlying30 rfl (by kernel_rfl) ?_) | ((with_reducible refine gate_dst (N := 123) rfl ?_); refine gate_guard (by rfl) ?_; refine wpList_load_row rfl 30 (.tmp 5) rfl b3 rfl 30 _ (0, 0) _ HS9.out.q Try.underlying30 rfl (by kernel_rfl) ?_))
      refine HRI.out.mono ?_
      rintro e wz ⟨rfl, hBr⟩
      have HSr := Lib.hid (HS9.out.below hBr)
      clear hBr
      go_wp2_with (first | ((with_reducible refine gate_dst (N := 128) rfl ?_); refine wpList_load_row rfl 30 (.tmp 5) rfl b3 rfl 30 _ (0, 0) _ HSr.out.q Try.underlying30 rfl (by kernel_rfl) ?_) | ((with_reducible refine gate_store (t := 30) (p := 2) (v := .tmp 128) rfl ?_); refine store_ev2 (P := Try.prog) rfl 30 (.tmp 2) (.tmp 128) rfl rfl w.heap.size 0 (.agg #[(.int .i64 4), (.int .u32 b.1), (.int .u32 b0.1), (.int .u64 0), (.int .u32 0), (.int .u64 f.1), (.int .u32 f.2.1), (.int .u64 0), (.int .u32 0), (.string ⟨#[]⟩), (.int .u8 0), (.bool false), (.slice none 0 0)]) #[(.int .i64 4), (.int .u32 b.1), (.int .u32 b0.1), (.int .u64 0), (.int .u32 0), (.int .u64 f.1), (.int .u32 f.2.1), (.int .u64 0), (.int .u32 0), (.string ⟨#[]⟩), (.int .u8 0), (.bool false), (.slice none 0 0)] rfl rfl rfl 30 _ #[(.int .i64 4), (.int .u32 b.1), (.int .u32 b0.1), (.int .u64 0), (.int .u32 0), (.int .u64 f.1), (.int .u32 f.2.1), (.int .u64 0), (.int .u32 0), (.string ⟨#[]⟩), (.int .u8 0), (.bool false), (.slice none 0 0)] HSr.out.z (by kernel_rfl) (by show 0 + 13 ≤ 13; decide) (by kernel_rfl) (by kernel_rfl) ?_; intro w19 hq hk hb; have HZ9 := Lib.hid hq; have HB9 := Lib.hid (hb _ _ HA.out.a HSr.out.b); clear hq hk hb))
      refine bodyPost_ret (results_ct rfl _ _ w.heap.size 30 _ (0, 0) _ rfl HZ9.out Try.underlying30 rfl (by kernel_rfl)) rfl ?_
      exact ⟨none, 0, by rw [HR2.out]; rfl, by rw [HR2.out]; exact Kd.C_nil _ _, by rw [HR2.out]; exact Nat.le_refl _, HB9.out⟩
  · have HR2 : Hid (readE s = (zE, 2)) := Lib.hid (by rw [HRD.out, if_neg he])
    have heb : (en == 0) = false := by simpa using he
    have heb2 : (en != 0) = true := by simpa using he
    go_wp2_with ((with_reducible refine gate_store (t := 30) (p := 2) (v := .tmp 127) rfl ?_); refine store_ev2 (P := Try.prog) rfl 30 (.tmp 2) (.tmp 127) rfl rfl w.heap.size 0 (.agg #[(.int .i64 0), (.int .u32 0), (.int .u32 0), (.int .u64 0), (.int .u32 0), (.int .u64 0), (.int .u32 0), (.int .u64 0), (.int .u32 0), (.string ⟨#[]⟩), (.int .u8 0), (.bool false), (.slice none 0 0)]) #[(.int .i64 0), (.int .u32 0), (.int .u32 0), (.int .u64 0), (.int .u32 0), (.int .u64 0), (.int .u32 0), (.int .u64 0), (.int .u32 0), (.string ⟨#[]⟩), (.int .u8 0), (.bool false), (.slice none 0 0)] rfl rfl rfl 30 _ #[(.int .i64 0), (.int .u32 0), (.int .u32 0), (.int .u64 0), (.int .u32 0), (.int .u64 0), (.int .u32 0), (.int .u64 0), (.int .u32 0), (.string ⟨#[]⟩), (.int .u8 0), (.bool false), (.slice none 0 0)] HS9.out.z (by kernel_rfl) (by show 0 + 13 ≤ 13; decide) (by kernel_rfl) (by kernel_rfl) ?_; intro w19 hq hk hb; have HZ9 := Lib.hid hq; have HB9 := Lib.hid (hb _ _ HA.out.a HS9.out.b); clear hq hk hb)
    refine bodyPost_ret (results_ct rfl _ _ w.heap.size 30 _ (0, 0) _ rfl HZ9.out Try.underlying30 rfl (by kernel_rfl)) rfl ?_
    exact ⟨none, 0, by rw [HR2.out]; rfl, by rw [HR2.out]; exact Kd.C_nil _ _, by rw [HR2.out]; exact Nat.le_refl _, HB9.out⟩
set_option maxRecDepth 100000 in
set_option maxHeartbeats 16000000 in
theorem dread_5 (s : ByteArray) (hs : s.size ≤ 9223372036854775807) (w : World) (hk : (rdNum s 0 9).1 = 5) : Calls Try.prog 13 #[.string s] w (ReadP s w) := by
  have HX0 := Lib.hid (heap_alloc_new w (.cells #[(.int .i64 0), (.int .u32 0), (.int .u32 0), (.int .u64 0), (.int .u32 0), (.int .u64 0), (.int .u32 0), (.int .u64 0), (.int .u32 0), (.string ⟨#[]⟩), (.int .u8 0), (.bool false), (.slice none 0 0)] 30))
  have HB0 := Lib.hid (below_alloc' (Below.refl _ w) (.cells #[(.int .i64 0), (.int .u32 0), (.int .u32 0), (.int .u64 0), (.int .u32 0), (.int .u64 0), (.int .u32 0), (.int .u64 0), (.int .u32 0), (.string ⟨#[]⟩), (.int .u8 0), (.bool false), (.slice none 0 0)] 30))
  go_enter Try.func13, Try.ntmps13
  go_wp2_with ((with_reducible refine gate_dst (N := 11) rfl ?_); refine box_event ?hg (N := 11) ?hd (cs := #[.string s, .int .i64 0]) (t := 75) ?hr ?_; (case hd => rfl); (case hg => rfl); (case hr => kernel_rfl); intro g hgg w1 hbox hbb; have HX1 := Lib.hid ((hbb.block _ (lt_at2 HX0.out)).trans HX0.out); have HB1 := Lib.hid (HB0.out.trans (hbb.mono HB0.out.size)); have HN2 : Hid (w.heap.size ≠ g) := Lib.hid (by have := lt_at2 HX0.out; omega); have HI1 : Hid (PDr.IsS75 w w1 g s 0) := Lib.hid ⟨hbox, by have := lt_at2 HX0.out; omega⟩; clear hgg hbox hbb HX0 HB0)
  refine (dnumber 9 (by decide) HI1.out HB1.out hs).mono ?_
  rintro e w2 ⟨rfl, hl⟩
  have za := rdNum_facts s 0 9 (by decide)
  obtain ⟨a, ha⟩ : ∃ x, x = rdNum s 0 9 := ⟨_, rfl⟩
  rw [← ha] at hl za hk ⊢
  have EA := Lib.hid ha
  have zaz := za.2.2
  rw [hk]
  have HK0 := Lib.hid hk
  clear ha hk za
  have h2 := blk_keep HX1.out hl.2.2 HN2.out
  have h3 := heap_alloc_new w2 (.cells #[(.int .i64 0), (.int .u32 0), (.int .u32 0), (.int .u64 0), (.int .u32 0), (.int .u64 0), (.int .u32 0), (.int .u64 0), (.int .u32 0), (.string ⟨#[]⟩), (.int .u8 0), (.bool false), (.slice none 0 0)] 30)
  have hg1 := lt_at2 hl.1.1
  have h22 := lt_at2 h2
  have HA : Hid (PUt w g w.heap.size w2.heap.size) := Lib.hid ⟨Nat.le_refl _, by have := hl.2.1.size; omega, HN2.out, by omega, by omega⟩
  have HS1 : Hid (QSu w g w.heap.size w2.heap.size #[(.int .i64 0), (.int .u32 0), (.int .u32 0), (.int .u64 0), (.int .u32 0), (.int .u64 0), (.int .u32 0), (.int .u64 0), (.int .u32 0), (.string ⟨#[]⟩), (.int .u8 0), (.bool false), (.slice none 0 0)] a.2.1 a.2.2 #[(.int .i64 0), (.int .u32 0), (.int .u32 0), (.int .u64 0), (.int .u32 0), (.int .u64 0), (.int .u32 0), (.int .u64 0), (.int .u32 0), (.string ⟨#[]⟩), (.int .u8 0), (.bool false), (.slice none 0 0)] (w2.alloc (.cells #[(.int .i64 0), (.int .u32 0), (.int .u32 0), (.int .u64 0), (.int .u32 0), (.int .u64 0), (.int .u32 0), (.int .u64 0), (.int .u32 0), (.string ⟨#[]⟩), (.int .u8 0), (.bool false), (.slice none 0 0)] 30))) := Lib.hid ⟨hl.1.alloc _, below_alloc' hl.2.1 _, blk_alloc h2 _, h3⟩
  clear hl h2 h3 hg1 h22 HX1 HN2 HI1 HB1
  go_wp2_with ((with_reducible refine gate_store (t := 30) (p := 5) (v := .tmp 15) rfl ?_); refine store_ev2 (P := Try.prog) rfl 30 (.tmp 5) (.tmp 15) rfl rfl w2.heap.size 0 (.agg #[(.int .i64 5), (.int .u32 0), (.int .u32 0), (.int .u64 0), (.int .u32 0), (.int .u64 0), (.int .u32 0), (.int .u64 0), (.int .u32 0), (.string ⟨#[]⟩), (.int .u8 0), (.bool false), (.slice none 0 0)]) #[(.int .i64 5), (.int .u32 0), (.int .u32 0), (.int .u64 0), (.int .u32 0), (.int .u64 0), (.int .u32 0), (.int .u64 0), (.int .u32 0), (.string ⟨#[]⟩), (.int .u8 0), (.bool false), (.slice none 0 0)] rfl rfl rfl 30 _ #[(.int .i64 5), (.int .u32 0), (.int .u32 0), (.int .u64 0), (.int .u32 0), (.int .u64 0), (.int .u32 0), (.int .u64 0), (.int .u32 0), (.string ⟨#[]⟩), (.int .u8 0), (.bool false), (.slice none 0 0)] HS1.out.q (by kernel_rfl) (by show 0 + 13 ≤ 13; decide) (by kernel_rfl) (by kernel_rfl) ?_; intro w2s hq hk hb; have HS2 := Lib.hid (HS1.out.store HA.out hq hk hb); have x0 := (blk_cell HS2.out.q 0).trans (show _ = some (.int .i64 5) from rfl); clear hq hk hb)
  clear HS1
  generalize w2.heap.size = b3 at *
  clear x0
  refine (dnumber 4294967295 (by decide) HS2.out.i HS2.out.b (by omega)).mono ?_
  rintro e w3c ⟨rfl, hl⟩
  have zb := rdNum_facts a.2.1 a.2.2 4294967295 (by decide)
  obtain ⟨b, hb⟩ : ∃ x, x = rdNum a.2.1 a.2.2 4294967295 := ⟨_, rfl⟩
  rw [← hb] at hl zb ⊢
  have EB := Lib.hid hb
  clear hb
  have HS3 := Lib.hid (HS2.out.call HA.out hl)
  clear hl HS2 
  have x0 := (blk_cell HS3.out.q 0).trans (show _ = some (.int .i64 5) from rfl)
  have hwb : b.1 % 4294967296 = b.1 := Int.emod_eq_of_lt zb.1 (by omega)
  go_wp2_with ((with_reducible refine gate_store (t := 22) (p := 28) (v := .tmp 26) rfl ?_); refine store_ev2 (P := Try.prog) rfl 22 (.tmp 28) (.tmp 26) rfl rfl b3 1 (.int .u32 b.1) #[(.int .u32 b.1)] rfl rfl rfl 30 _ #[(.int .i64 5), (.int .u32 b.1), (.int .u32 0), (.int .u64 0), (.int .u32 0), (.int .u64 0), (.int .u32 0), (.int .u64 0), (.int .u32 0), (.string ⟨#[]⟩), (.int .u8 0), (.bool false), (.slice none 0 0)] HS3.out.q (by kernel_rfl) (by show 1 + 1 ≤ 13; decide) (by kernel_rfl) (by kernel_rfl) ?_; intro w4s hq hk hb; clear x0; have HS4 := Lib.hid (HS3.out.store HA.out hq hk hb); have x0 := (blk_cell HS4.out.q 0).trans (show _ = some (.int .i64 5) from rfl); clear hq hk hb)
  clear HS3 
  clear x0
  refine (dnumber 4294967295 (by decide) HS4.out.i HS4.out.b (by omega)).mono ?_
  rintro e w5c ⟨rfl, hl⟩
  have zb0 := rdNum_facts b.2.1 b.2.2 4294967295 (by decide)
  obtain ⟨b0, hb0⟩ : ∃ x, x = rdNum b.2.1 b.2.2 4294967295 := ⟨_, rfl⟩
  rw [← hb0] at hl zb0 ⊢
  have EB0 := Lib.hid hb0
  clear hb0
  have HS5 := Lib.hid (HS4.out.call HA.out hl)
  clear hl HS4 
  have x0 := (blk_cell HS5.out.q 0).trans (show _ = some (.int .i64 5) from rfl)
  have hwb0 : b0.1 % 4294967296 = b0.1 := Int.emod_eq_of_lt zb0.1 (by omega)
  go_wp2_with ((with_reducible refine gate_store (t := 22) (p := 33) (v := .tmp 31) rfl ?_); refine store_ev2 (P := Try.prog) rfl 22 (.tmp 33) (.tmp 31) rfl rfl b3 2 (.int .u32 b0.1) #[(.int .u32 b0.1)] rfl rfl rfl 30 _ #[(.int .i64 5), (.int .u32 b.1), (.int .u32 b0.1), (.int .u64 0), (.int .u32 0), (.int .u64 0), (.int .u32 0), (.int .u64 0), (.int .u32 0), (.string ⟨#[]⟩), (.int .u8 0), (.bool false), (.slice none 0 0)] HS5.out.q (by kernel_rfl) (by show 2 + 1 ≤ 13; decide) (by kernel_rfl) (by kernel_rfl) ?_; intro w6s hq hk hb; clear x0; have HS6 := Lib.hid (HS5.out.store HA.out hq hk hb); have x0 := (blk_cell HS6.out.q 0).trans (show _ = some (.int .i64 5) from rfl); clear hq hk hb)
  clear HS5 
  clear x0
  refine (dstamp HS6.out.i HS6.out.b (by omega)).mono ?_
  rintro e w7c ⟨rfl, hl⟩
  have zc := stamp_sz b0.2.1 b0.2.2
  obtain ⟨c, hc⟩ : ∃ x, x = rdStamp b0.2.1 b0.2.2 := ⟨_, rfl⟩
  rw [← hc] at hl zc ⊢
  have EC := Lib.hid hc
  clear hc
  have HS7 := Lib.hid (HS6.out.call HA.out hl)
  clear hl HS6 
  have x0 := (blk_cell HS7.out.q 0).trans (show _ = some (.int .i64 5) from rfl)
  go_wp2_with ((with_reducible refine gate_store (t := 27) (p := 54) (v := .tmp 53) rfl ?_); refine store_ev2 (P := Try.prog) rfl 27 (.tmp 54) (.tmp 53) rfl rfl b3 3 (.agg #[.int .u64 c.1, .int .u32 c.2.1]) #[(.int .u64 c.1), (.int .u32 c.2.1)] rfl rfl rfl 30 _ #[(.int .i64 5), (.int .u32 b.1), (.int .u32 b0.1), (.int .u64 c.1), (.int .u32 c.2.1), (.int .u64 0), (.int .u32 0), (.int .u64 0), (.int .u32 0), (.string ⟨#[]⟩), (.int .u8 0), (.bool false), (.slice none 0 0)] HS7.out.q (by kernel_rfl) (by show 3 + 2 ≤ 13; decide) (by kernel_rfl) (by kernel_rfl) ?_; intro w8s hq hk hb; clear x0; have HS8 := Lib.hid (HS7.out.store HA.out hq hk hb); have x0 := (blk_cell HS8.out.q 0).trans (show _ = some (.int .i64 5) from rfl); clear hq hk hb)
  clear HS7 
  go_loop [7] (fun i => i = .int .i64 0) (fun _ => 1)
  case atStart => rfl
  case round =>
  subst hrel
  go_wp2_with fail
  clear x0
  refine (dend HS8.out.i HS8.out.b).mono ?_
  rintro e w9c ⟨rfl, hl⟩
  have HS9 := Lib.hid (HS8.out.call HA.out hl)
  clear hl HS8 
  obtain ⟨en, hen⟩ : ∃ en, en = rdEnd c.2.2.1 c.2.2.2 := ⟨_, rfl⟩
  rw [← hen]
  have HEN := Lib.hid hen
  clear hen
  have HRD : Hid (readE s = if en = 0 then (if rightE ⟨5, b.1, b0.1, c.1, c.2.1, 0, 0, 0, 0, ⟨#[]⟩, 0, false, []⟩ = true then (⟨5, b.1, b0.1, c.1, c.2.1, 0, 0, 0, 0, ⟨#[]⟩, 0, false, []⟩, 0) else (zE, 2)) else (zE, 2)) := Lib.hid (by
    have hp : rdE s = (⟨5, b.1, b0.1, c.1, c.2.1, 0, 0, 0, 0, ⟨#[]⟩, 0, false, []⟩, c.2.2.1, c.2.2.2) := by
      unfold rdE rdTail orX rdX
      rw [← EA.out, HK0.out]
      simp [hB, hS, hM, hA, hW, hT, hD, lstR, ← EB.out, ← EB0.out, ← EC.out]
    unfold readE
    rw [hp, ← HEN.out])
  have HOK : Hid (EOk ⟨5, b.1, b0.1, c.1, c.2.1, 0, 0, 0, 0, ⟨#[]⟩, 0, false, []⟩) := Lib.hid (by
    have hp : (rdTail 5 a.2.1 a.2.2).1 = ⟨5, b.1, b0.1, c.1, c.2.1, 0, 0, 0, 0, ⟨#[]⟩, 0, false, []⟩ := by
      unfold rdTail orX rdX
      simp [hB, hS, hM, hA, hW, hT, hD, lstR, ← EB.out, ← EB0.out, ← EC.out]
    rw [← hp]
    exact tailOk _ (by decide) _ _)
  rcases (show en = 0 ∨ en ≠ 0 from by omega) with he | he
  · subst he
    have HCC : Hid (EnIn w9c ⟨5, b.1, b0.1, c.1, c.2.1, 0, 0, 0, 0, ⟨#[]⟩, 0, false, []⟩ none 0) := Lib.hid ⟨Kd.C_nil _ _, Nat.le_refl _⟩
    cases hri : rightE ⟨5, b.1, b0.1, c.1, c.2.1, 0, 0, 0, 0, ⟨#[]⟩, 0, false, []⟩ with
    | false =>
      have HR2 : Hid (readE s = (zE, 2)) := Lib.hid (by rw [HRD.out, if_pos rfl, if_neg (by rw [hri]; decide)])
      have HRI := Lib.hid ((rright_calls ⟨5, b.1, b0.1, c.1, c.2.1, 0, 0, 0, 0, ⟨#[]⟩, 0, false, []⟩ none 0 w9c HCC.out HOK.out.ws).mono fun rr w' (h : rr = .returned (.bool (rightE ⟨5, b.1, b0.1, c.1, c.2.1, 0, 0, 0, 0, ⟨#[]⟩, 0, false, []⟩)) ∧ Below w9c.heap.size w9c w') => (⟨by rw [h.1, hri], h.2⟩ : rr = .returned (.bool false) ∧ Below w9c.heap.size w9c w'))
      have HRV := Lib.hid hri
      clear hri
      go_wp2_with (first | ((with_reducible refine gate_dst (N := 123) rfl ?_); refine wpList_load_row rfl 30 (.tmp 5) rfl b3 rfl 30 _ (0, 0) _ HS9.out.q Try.underlying30 rfl (by kernel_rfl) ?_) | ((with_reducible refine gate_dst (N := 123) rfl ?_); refine gate_guard (by rfl) ?_; refine wpList_load_row rfl 30 (.tmp 5) rfl b3 rfl 30 _ (0, 0) _ HS9.out.q Try.underlying30 rfl (by kernel_rfl) ?_))
      refine HRI.out.mono ?_
      rintro e wz ⟨rfl, hBr⟩
      have HSr := Lib.hid (HS9.out.below hBr)
      clear hBr
      go_wp2_with ((with_reducible refine gate_store (t := 30) (p := 2) (v := .tmp 127) rfl ?_); refine store_ev2 (P := Try.prog) rfl 30 (.tmp 2) (.tmp 127) rfl rfl w.heap.size 0 (.agg #[(.int .i64 0), (.int .u32 0), (.int .u32 0), (.int .u64 0), (.int .u32 0), (.int .u64 0), (.int .u32 0), (.int .u64 0), (.int .u32 0), (.string ⟨#[]⟩), (.int .u8 0), (.bool false), (.slice none 0 0)]) #[(.int .i64 0), (.int .u32 0), (.int .u32 0), (.int .u64 0), (.int .u32 0), (.int .u64 0), (.int .u32 0), (.int .u64 0), (.int .u32 0), (.string ⟨#[]⟩), (.int .u8 0), (.bool false), (.slice none 0 0)] rfl rfl rfl 30 _ #[(.int .i64 0), (.int .u32 0), (.int .u32 0), (.int .u64 0), (.int .u32 0), (.int .u64 0), (.int .u32 0), (.int .u64 0), (.int .u32 0), (.string ⟨#[]⟩), (.int .u8 0), (.bool false), (.slice none 0 0)] HSr.out.z (by kernel_rfl) (by show 0 + 13 ≤ 13; decide) (by kernel_rfl) (by kernel_rfl) ?_; intro w19 hq hk hb; have HZ9 := Lib.hid hq; have HB9 := Lib.hid (hb _ _ HA.out.a HSr.out.b); clear hq hk hb)
      refine bodyPost_ret (results_ct rfl _ _ w.heap.size 30 _ (0, 0) _ rfl HZ9.out Try.underlying30 rfl (by kernel_rfl)) rfl ?_
      exact ⟨none, 0, by rw [HR2.out]; rfl, by rw [HR2.out]; exact Kd.C_nil _ _, by rw [HR2.out]; exact Nat.le_refl _, HB9.out⟩
    | true =>
      have HR2 : Hid (readE s = (⟨5, b.1, b0.1, c.1, c.2.1, 0, 0, 0, 0, ⟨#[]⟩, 0, false, []⟩, 0)) := Lib.hid (by rw [HRD.out, if_pos rfl, if_pos hri])
      have HRI := Lib.hid ((rright_calls ⟨5, b.1, b0.1, c.1, c.2.1, 0, 0, 0, 0, ⟨#[]⟩, 0, false, []⟩ none 0 w9c HCC.out HOK.out.ws).mono fun rr w' (h : rr = .returned (.bool (rightE ⟨5, b.1, b0.1, c.1, c.2.1, 0, 0, 0, 0, ⟨#[]⟩, 0, false, []⟩)) ∧ Below w9c.heap.size w9c w') => (⟨by rw [h.1, hri], h.2⟩ : rr = .returned (.bool true) ∧ Below w9c.heap.size w9c w'))
      have HRV := Lib.hid hri
      clear hri
      go_wp2_with (first | ((with_reducible refine gate_dst (N := 123) rfl ?_); refine wpList_load_row rfl 30 (.tmp 5) rfl b3 rfl 30 _ (0, 0) _ HS9.out.q Try.underlying30 rfl (by kernel_rfl) ?_) | ((with_reducible refine gate_dst (N := 123) rfl ?_); refine gate_guard (by rfl) ?_; refine wpList_load_row rfl 30 (.tmp 5) rfl b3 rfl 30 _ (0, 0) _ HS9.out.q Try.underlying30 rfl (by kernel_rfl) ?_))
      refine HRI.out.mono ?_
      rintro e wz ⟨rfl, hBr⟩
      have HSr := Lib.hid (HS9.out.below hBr)
      clear hBr
      go_wp2_with (first | ((with_reducible refine gate_dst (N := 128) rfl ?_); refine wpList_load_row rfl 30 (.tmp 5) rfl b3 rfl 30 _ (0, 0) _ HSr.out.q Try.underlying30 rfl (by kernel_rfl) ?_) | ((with_reducible refine gate_store (t := 30) (p := 2) (v := .tmp 128) rfl ?_); refine store_ev2 (P := Try.prog) rfl 30 (.tmp 2) (.tmp 128) rfl rfl w.heap.size 0 (.agg #[(.int .i64 5), (.int .u32 b.1), (.int .u32 b0.1), (.int .u64 c.1), (.int .u32 c.2.1), (.int .u64 0), (.int .u32 0), (.int .u64 0), (.int .u32 0), (.string ⟨#[]⟩), (.int .u8 0), (.bool false), (.slice none 0 0)]) #[(.int .i64 5), (.int .u32 b.1), (.int .u32 b0.1), (.int .u64 c.1), (.int .u32 c.2.1), (.int .u64 0), (.int .u32 0), (.int .u64 0), (.int .u32 0), (.string ⟨#[]⟩), (.int .u8 0), (.bool false), (.slice none 0 0)] rfl rfl rfl 30 _ #[(.int .i64 5), (.int .u32 b.1), (.int .u32 b0.1), (.int .u64 c.1), (.int .u32 c.2.1), (.int .u64 0), (.int .u32 0), (.int .u64 0), (.int .u32 0), (.string ⟨#[]⟩), (.int .u8 0), (.bool false), (.slice none 0 0)] HSr.out.z (by kernel_rfl) (by show 0 + 13 ≤ 13; decide) (by kernel_rfl) (by kernel_rfl) ?_; intro w19 hq hk hb; have HZ9 := Lib.hid hq; have HB9 := Lib.hid (hb _ _ HA.out.a HSr.out.b); clear hq hk hb))
      refine bodyPost_ret (results_ct rfl _ _ w.heap.size 30 _ (0, 0) _ rfl HZ9.out Try.underlying30 rfl (by kernel_rfl)) rfl ?_
      exact ⟨none, 0, by rw [HR2.out]; rfl, by rw [HR2.out]; exact Kd.C_nil _ _, by rw [HR2.out]; exact Nat.le_refl _, HB9.out⟩
  · have HR2 : Hid (readE s = (zE, 2)) := Lib.hid (by rw [HRD.out, if_neg he])
    have heb : (en == 0) = false := by simpa using he
    have heb2 : (en != 0) = true := by simpa using he
    go_wp2_with ((with_reducible refine gate_store (t := 30) (p := 2) (v := .tmp 127) rfl ?_); refine store_ev2 (P := Try.prog) rfl 30 (.tmp 2) (.tmp 127) rfl rfl w.heap.size 0 (.agg #[(.int .i64 0), (.int .u32 0), (.int .u32 0), (.int .u64 0), (.int .u32 0), (.int .u64 0), (.int .u32 0), (.int .u64 0), (.int .u32 0), (.string ⟨#[]⟩), (.int .u8 0), (.bool false), (.slice none 0 0)]) #[(.int .i64 0), (.int .u32 0), (.int .u32 0), (.int .u64 0), (.int .u32 0), (.int .u64 0), (.int .u32 0), (.int .u64 0), (.int .u32 0), (.string ⟨#[]⟩), (.int .u8 0), (.bool false), (.slice none 0 0)] rfl rfl rfl 30 _ #[(.int .i64 0), (.int .u32 0), (.int .u32 0), (.int .u64 0), (.int .u32 0), (.int .u64 0), (.int .u32 0), (.int .u64 0), (.int .u32 0), (.string ⟨#[]⟩), (.int .u8 0), (.bool false), (.slice none 0 0)] HS9.out.z (by kernel_rfl) (by show 0 + 13 ≤ 13; decide) (by kernel_rfl) (by kernel_rfl) ?_; intro w19 hq hk hb; have HZ9 := Lib.hid hq; have HB9 := Lib.hid (hb _ _ HA.out.a HS9.out.b); clear hq hk hb)
    refine bodyPost_ret (results_ct rfl _ _ w.heap.size 30 _ (0, 0) _ rfl HZ9.out Try.underlying30 rfl (by kernel_rfl)) rfl ?_
    exact ⟨none, 0, by rw [HR2.out]; rfl, by rw [HR2.out]; exact Kd.C_nil _ _, by rw [HR2.out]; exact Nat.le_refl _, HB9.out⟩
set_option maxRecDepth 100000 in
set_option maxHeartbeats 16000000 in
theorem dread_6 (s : ByteArray) (hs : s.size ≤ 9223372036854775807) (w : World) (hk : (rdNum s 0 9).1 = 6) : Calls Try.prog 13 #[.string s] w (ReadP s w) := by
  have HX0 := Lib.hid (heap_alloc_new w (.cells #[(.int .i64 0), (.int .u32 0), (.int .u32 0), (.int .u64 0), (.int .u32 0), (.int .u64 0), (.int .u32 0), (.int .u64 0), (.int .u32 0), (.string ⟨#[]⟩), (.int .u8 0), (.bool false), (.slice none 0 0)] 30))
  have HB0 := Lib.hid (below_alloc' (Below.refl _ w) (.cells #[(.int .i64 0), (.int .u32 0), (.int .u32 0), (.int .u64 0), (.int .u32 0), (.int .u64 0), (.int .u32 0), (.int .u64 0), (.int .u32 0), (.string ⟨#[]⟩), (.int .u8 0), (.bool false), (.slice none 0 0)] 30))
  go_enter Try.func13, Try.ntmps13
  go_wp2_with ((with_reducible refine gate_dst (N := 11) rfl ?_); refine box_event ?hg (N := 11) ?hd (cs := #[.string s, .int .i64 0]) (t := 75) ?hr ?_; (case hd => rfl); (case hg => rfl); (case hr => kernel_rfl); intro g hgg w1 hbox hbb; have HX1 := Lib.hid ((hbb.block _ (lt_at2 HX0.out)).trans HX0.out); have HB1 := Lib.hid (HB0.out.trans (hbb.mono HB0.out.size)); have HN2 : Hid (w.heap.size ≠ g) := Lib.hid (by have := lt_at2 HX0.out; omega); have HI1 : Hid (PDr.IsS75 w w1 g s 0) := Lib.hid ⟨hbox, by have := lt_at2 HX0.out; omega⟩; clear hgg hbox hbb HX0 HB0)
  refine (dnumber 9 (by decide) HI1.out HB1.out hs).mono ?_
  rintro e w2 ⟨rfl, hl⟩
  have za := rdNum_facts s 0 9 (by decide)
  obtain ⟨a, ha⟩ : ∃ x, x = rdNum s 0 9 := ⟨_, rfl⟩
  rw [← ha] at hl za hk ⊢
  have EA := Lib.hid ha
  have zaz := za.2.2
  rw [hk]
  have HK0 := Lib.hid hk
  clear ha hk za
  have h2 := blk_keep HX1.out hl.2.2 HN2.out
  have h3 := heap_alloc_new w2 (.cells #[(.int .i64 0), (.int .u32 0), (.int .u32 0), (.int .u64 0), (.int .u32 0), (.int .u64 0), (.int .u32 0), (.int .u64 0), (.int .u32 0), (.string ⟨#[]⟩), (.int .u8 0), (.bool false), (.slice none 0 0)] 30)
  have hg1 := lt_at2 hl.1.1
  have h22 := lt_at2 h2
  have HA : Hid (PUt w g w.heap.size w2.heap.size) := Lib.hid ⟨Nat.le_refl _, by have := hl.2.1.size; omega, HN2.out, by omega, by omega⟩
  have HS1 : Hid (QSu w g w.heap.size w2.heap.size #[(.int .i64 0), (.int .u32 0), (.int .u32 0), (.int .u64 0), (.int .u32 0), (.int .u64 0), (.int .u32 0), (.int .u64 0), (.int .u32 0), (.string ⟨#[]⟩), (.int .u8 0), (.bool false), (.slice none 0 0)] a.2.1 a.2.2 #[(.int .i64 0), (.int .u32 0), (.int .u32 0), (.int .u64 0), (.int .u32 0), (.int .u64 0), (.int .u32 0), (.int .u64 0), (.int .u32 0), (.string ⟨#[]⟩), (.int .u8 0), (.bool false), (.slice none 0 0)] (w2.alloc (.cells #[(.int .i64 0), (.int .u32 0), (.int .u32 0), (.int .u64 0), (.int .u32 0), (.int .u64 0), (.int .u32 0), (.int .u64 0), (.int .u32 0), (.string ⟨#[]⟩), (.int .u8 0), (.bool false), (.slice none 0 0)] 30))) := Lib.hid ⟨hl.1.alloc _, below_alloc' hl.2.1 _, blk_alloc h2 _, h3⟩
  clear hl h2 h3 hg1 h22 HX1 HN2 HI1 HB1
  go_wp2_with ((with_reducible refine gate_store (t := 30) (p := 5) (v := .tmp 15) rfl ?_); refine store_ev2 (P := Try.prog) rfl 30 (.tmp 5) (.tmp 15) rfl rfl w2.heap.size 0 (.agg #[(.int .i64 6), (.int .u32 0), (.int .u32 0), (.int .u64 0), (.int .u32 0), (.int .u64 0), (.int .u32 0), (.int .u64 0), (.int .u32 0), (.string ⟨#[]⟩), (.int .u8 0), (.bool false), (.slice none 0 0)]) #[(.int .i64 6), (.int .u32 0), (.int .u32 0), (.int .u64 0), (.int .u32 0), (.int .u64 0), (.int .u32 0), (.int .u64 0), (.int .u32 0), (.string ⟨#[]⟩), (.int .u8 0), (.bool false), (.slice none 0 0)] rfl rfl rfl 30 _ #[(.int .i64 6), (.int .u32 0), (.int .u32 0), (.int .u64 0), (.int .u32 0), (.int .u64 0), (.int .u32 0), (.int .u64 0), (.int .u32 0), (.string ⟨#[]⟩), (.int .u8 0), (.bool false), (.slice none 0 0)] HS1.out.q (by kernel_rfl) (by show 0 + 13 ≤ 13; decide) (by kernel_rfl) (by kernel_rfl) ?_; intro w2s hq hk hb; have HS2 := Lib.hid (HS1.out.store HA.out hq hk hb); have x0 := (blk_cell HS2.out.q 0).trans (show _ = some (.int .i64 6) from rfl); clear hq hk hb)
  clear HS1
  generalize w2.heap.size = b3 at *
  clear x0
  refine (dstamp HS2.out.i HS2.out.b (by omega)).mono ?_
  rintro e w3c ⟨rfl, hl⟩
  have zf := stamp_sz a.2.1 a.2.2
  obtain ⟨f, hf⟩ : ∃ x, x = rdStamp a.2.1 a.2.2 := ⟨_, rfl⟩
  rw [← hf] at hl zf ⊢
  have EF := Lib.hid hf
  clear hf
  have HS3 := Lib.hid (HS2.out.call HA.out hl)
  clear hl HS2 
  have x0 := (blk_cell HS3.out.q 0).trans (show _ = some (.int .i64 6) from rfl)
  go_wp2_with ((with_reducible refine gate_store (t := 27) (p := 75) (v := .tmp 74) rfl ?_); refine store_ev2 (P := Try.prog) rfl 27 (.tmp 75) (.tmp 74) rfl rfl b3 5 (.agg #[.int .u64 f.1, .int .u32 f.2.1]) #[(.int .u64 f.1), (.int .u32 f.2.1)] rfl rfl rfl 30 _ #[(.int .i64 6), (.int .u32 0), (.int .u32 0), (.int .u64 0), (.int .u32 0), (.int .u64 f.1), (.int .u32 f.2.1), (.int .u64 0), (.int .u32 0), (.string ⟨#[]⟩), (.int .u8 0), (.bool false), (.slice none 0 0)] HS3.out.q (by kernel_rfl) (by show 5 + 2 ≤ 13; decide) (by kernel_rfl) (by kernel_rfl) ?_; intro w4s hq hk hb; clear x0; have HS4 := Lib.hid (HS3.out.store HA.out hq hk hb); have x0 := (blk_cell HS4.out.q 0).trans (show _ = some (.int .i64 6) from rfl); clear hq hk hb)
  clear HS3 
  go_loop [7] (fun i => i = .int .i64 0) (fun _ => 1)
  case atStart => rfl
  case round =>
  subst hrel
  go_wp2_with fail
  clear x0
  refine (dend HS4.out.i HS4.out.b).mono ?_
  rintro e w5c ⟨rfl, hl⟩
  have HS5 := Lib.hid (HS4.out.call HA.out hl)
  clear hl HS4 
  obtain ⟨en, hen⟩ : ∃ en, en = rdEnd f.2.2.1 f.2.2.2 := ⟨_, rfl⟩
  rw [← hen]
  have HEN := Lib.hid hen
  clear hen
  have HRD : Hid (readE s = if en = 0 then (if rightE ⟨6, 0, 0, 0, 0, f.1, f.2.1, 0, 0, ⟨#[]⟩, 0, false, []⟩ = true then (⟨6, 0, 0, 0, 0, f.1, f.2.1, 0, 0, ⟨#[]⟩, 0, false, []⟩, 0) else (zE, 2)) else (zE, 2)) := Lib.hid (by
    have hp : rdE s = (⟨6, 0, 0, 0, 0, f.1, f.2.1, 0, 0, ⟨#[]⟩, 0, false, []⟩, f.2.2.1, f.2.2.2) := by
      unfold rdE rdTail orX rdX
      rw [← EA.out, HK0.out]
      simp [hB, hS, hM, hA, hW, hT, hD, lstR, ← EF.out]
    unfold readE
    rw [hp, ← HEN.out])
  have HOK : Hid (EOk ⟨6, 0, 0, 0, 0, f.1, f.2.1, 0, 0, ⟨#[]⟩, 0, false, []⟩) := Lib.hid (by
    have hp : (rdTail 6 a.2.1 a.2.2).1 = ⟨6, 0, 0, 0, 0, f.1, f.2.1, 0, 0, ⟨#[]⟩, 0, false, []⟩ := by
      unfold rdTail orX rdX
      simp [hB, hS, hM, hA, hW, hT, hD, lstR, ← EF.out]
    rw [← hp]
    exact tailOk _ (by decide) _ _)
  rcases (show en = 0 ∨ en ≠ 0 from by omega) with he | he
  · subst he
    have HCC : Hid (EnIn w5c ⟨6, 0, 0, 0, 0, f.1, f.2.1, 0, 0, ⟨#[]⟩, 0, false, []⟩ none 0) := Lib.hid ⟨Kd.C_nil _ _, Nat.le_refl _⟩
    cases hri : rightE ⟨6, 0, 0, 0, 0, f.1, f.2.1, 0, 0, ⟨#[]⟩, 0, false, []⟩ with
    | false =>
      have HR2 : Hid (readE s = (zE, 2)) := Lib.hid (by rw [HRD.out, if_pos rfl, if_neg (by rw [hri]; decide)])
      have HRI := Lib.hid ((rright_calls ⟨6, 0, 0, 0, 0, f.1, f.2.1, 0, 0, ⟨#[]⟩, 0, false, []⟩ none 0 w5c HCC.out HOK.out.ws).mono fun rr w' (h : rr = .returned (.bool (rightE ⟨6, 0, 0, 0, 0, f.1, f.2.1, 0, 0, ⟨#[]⟩, 0, false, []⟩)) ∧ Below w5c.heap.size w5c w') => (⟨by rw [h.1, hri], h.2⟩ : rr = .returned (.bool false) ∧ Below w5c.heap.size w5c w'))
      have HRV := Lib.hid hri
      clear hri
      go_wp2_with (first | ((with_reducible refine gate_dst (N := 123) rfl ?_); refine wpList_load_row rfl 30 (.tmp 5) rfl b3 rfl 30 _ (0, 0) _ HS5.out.q Try.underlying30 rfl (by kernel_rfl) ?_) | ((with_reducible refine gate_dst (N := 123) rfl ?_); refine gate_guard (by rfl) ?_; refine wpList_load_row rfl 30 (.tmp 5) rfl b3 rfl 30 _ (0, 0) _ HS5.out.q Try.underlying30 rfl (by kernel_rfl) ?_))
      refine HRI.out.mono ?_
      rintro e wz ⟨rfl, hBr⟩
      have HSr := Lib.hid (HS5.out.below hBr)
      clear hBr
      go_wp2_with ((with_reducible refine gate_store (t := 30) (p := 2) (v := .tmp 127) rfl ?_); refine store_ev2 (P := Try.prog) rfl 30 (.tmp 2) (.tmp 127) rfl rfl w.heap.size 0 (.agg #[(.int .i64 0), (.int .u32 0), (.int .u32 0), (.int .u64 0), (.int .u32 0), (.int .u64 0), (.int .u32 0), (.int .u64 0), (.int .u32 0), (.string ⟨#[]⟩), (.int .u8 0), (.bool false), (.slice none 0 0)]) #[(.int .i64 0), (.int .u32 0), (.int .u32 0), (.int .u64 0), (.int .u32 0), (.int .u64 0), (.int .u32 0), (.int .u64 0), (.int .u32 0), (.string ⟨#[]⟩), (.int .u8 0), (.bool false), (.slice none 0 0)] rfl rfl rfl 30 _ #[(.int .i64 0), (.int .u32 0), (.int .u32 0), (.int .u64 0), (.int .u32 0), (.int .u64 0), (.int .u32 0), (.int .u64 0), (.int .u32 0), (.string ⟨#[]⟩), (.int .u8 0), (.bool false), (.slice none 0 0)] HSr.out.z (by kernel_rfl) (by show 0 + 13 ≤ 13; decide) (by kernel_rfl) (by kernel_rfl) ?_; intro w19 hq hk hb; have HZ9 := Lib.hid hq; have HB9 := Lib.hid (hb _ _ HA.out.a HSr.out.b); clear hq hk hb)
      refine bodyPost_ret (results_ct rfl _ _ w.heap.size 30 _ (0, 0) _ rfl HZ9.out Try.underlying30 rfl (by kernel_rfl)) rfl ?_
      exact ⟨none, 0, by rw [HR2.out]; rfl, by rw [HR2.out]; exact Kd.C_nil _ _, by rw [HR2.out]; exact Nat.le_refl _, HB9.out⟩
    | true =>
      have HR2 : Hid (readE s = (⟨6, 0, 0, 0, 0, f.1, f.2.1, 0, 0, ⟨#[]⟩, 0, false, []⟩, 0)) := Lib.hid (by rw [HRD.out, if_pos rfl, if_pos hri])
      have HRI := Lib.hid ((rright_calls ⟨6, 0, 0, 0, 0, f.1, f.2.1, 0, 0, ⟨#[]⟩, 0, false, []⟩ none 0 w5c HCC.out HOK.out.ws).mono fun rr w' (h : rr = .returned (.bool (rightE ⟨6, 0, 0, 0, 0, f.1, f.2.1, 0, 0, ⟨#[]⟩, 0, false, []⟩)) ∧ Below w5c.heap.size w5c w') => (⟨by rw [h.1, hri], h.2⟩ : rr = .returned (.bool true) ∧ Below w5c.heap.size w5c w'))
      have HRV := Lib.hid hri
      clear hri
      go_wp2_with (first | ((with_reducible refine gate_dst (N := 123) rfl ?_); refine wpList_load_row rfl 30 (.tmp 5) rfl b3 rfl 30 _ (0, 0) _ HS5.out.q Try.underlying30 rfl (by kernel_rfl) ?_) | ((with_reducible refine gate_dst (N := 123) rfl ?_); refine gate_guard (by rfl) ?_; refine wpList_load_row rfl 30 (.tmp 5) rfl b3 rfl 30 _ (0, 0) _ HS5.out.q Try.underlying30 rfl (by kernel_rfl) ?_))
      refine HRI.out.mono ?_
      rintro e wz ⟨rfl, hBr⟩
      have HSr := Lib.hid (HS5.out.below hBr)
      clear hBr
      go_wp2_with (first | ((with_reducible refine gate_dst (N := 128) rfl ?_); refine wpList_load_row rfl 30 (.tmp 5) rfl b3 rfl 30 _ (0, 0) _ HSr.out.q Try.underlying30 rfl (by kernel_rfl) ?_) | ((with_reducible refine gate_store (t := 30) (p := 2) (v := .tmp 128) rfl ?_); refine store_ev2 (P := Try.prog) rfl 30 (.tmp 2) (.tmp 128) rfl rfl w.heap.size 0 (.agg #[(.int .i64 6), (.int .u32 0), (.int .u32 0), (.int .u64 0), (.int .u32 0), (.int .u64 f.1), (.int .u32 f.2.1), (.int .u64 0), (.int .u32 0), (.string ⟨#[]⟩), (.int .u8 0), (.bool false), (.slice none 0 0)]) #[(.int .i64 6), (.int .u32 0), (.int .u32 0), (.int .u64 0), (.int .u32 0), (.int .u64 f.1), (.int .u32 f.2.1), (.int .u64 0), (.int .u32 0), (.string ⟨#[]⟩), (.int .u8 0), (.bool false), (.slice none 0 0)] rfl rfl rfl 30 _ #[(.int .i64 6), (.int .u32 0), (.int .u32 0), (.int .u64 0), (.int .u32 0), (.int .u64 f.1), (.int .u32 f.2.1), (.int .u64 0), (.int .u32 0), (.string ⟨#[]⟩), (.int .u8 0), (.bool false), (.slice none 0 0)] HSr.out.z (by kernel_rfl) (by show 0 + 13 ≤ 13; decide) (by kernel_rfl) (by kernel_rfl) ?_; intro w19 hq hk hb; have HZ9 := Lib.hid hq; have HB9 := Lib.hid (hb _ _ HA.out.a HSr.out.b); clear hq hk hb))
      refine bodyPost_ret (results_ct rfl _ _ w.heap.size 30 _ (0, 0) _ rfl HZ9.out Try.underlying30 rfl (by kernel_rfl)) rfl ?_
      exact ⟨none, 0, by rw [HR2.out]; rfl, by rw [HR2.out]; exact Kd.C_nil _ _, by rw [HR2.out]; exact Nat.le_refl _, HB9.out⟩
  · have HR2 : Hid (readE s = (zE, 2)) := Lib.hid (by rw [HRD.out, if_neg he])
    have heb : (en == 0) = false := by simpa using he
    have heb2 : (en != 0) = true := by simpa using he
    go_wp2_with ((with_reducible refine gate_store (t := 30) (p := 2) (v := .tmp 127) rfl ?_); refine store_ev2 (P := Try.prog) rfl 30 (.tmp 2) (.tmp 127) rfl rfl w.heap.size 0 (.agg #[(.int .i64 0), (.int .u32 0), (.int .u32 0), (.int .u64 0), (.int .u32 0), (.int .u64 0), (.int .u32 0), (.int .u64 0), (.int .u32 0), (.string ⟨#[]⟩), (.int .u8 0), (.bool false), (.slice none 0 0)]) #[(.int .i64 0), (.int .u32 0), (.int .u32 0), (.int .u64 0), (.int .u32 0), (.int .u64 0), (.int .u32 0), (.int .u64 0), (.int .u32 0), (.string ⟨#[]⟩), (.int .u8 0), (.bool false), (.slice none 0 0)] rfl rfl rfl 30 _ #[(.int .i64 0), (.int .u32 0), (.int .u32 0), (.int .u64 0), (.int .u32 0), (.int .u64 0), (.int .u32 0), (.int .u64 0), (.int .u32 0), (.string ⟨#[]⟩), (.int .u8 0), (.bool false), (.slice none 0 0)] HS5.out.z (by kernel_rfl) (by show 0 + 13 ≤ 13; decide) (by kernel_rfl) (by kernel_rfl) ?_; intro w19 hq hk hb; have HZ9 := Lib.hid hq; have HB9 := Lib.hid (hb _ _ HA.out.a HS5.out.b); clear hq hk hb)
    refine bodyPost_ret (results_ct rfl _ _ w.heap.size 30 _ (0, 0) _ rfl HZ9.out Try.underlying30 rfl (by kernel_rfl)) rfl ?_
    exact ⟨none, 0, by rw [HR2.out]; rfl, by rw [HR2.out]; exact Kd.C_nil _ _, by rw [HR2.out]; exact Nat.le_refl _, HB9.out⟩
set_option maxRecDepth 100000 in
set_option maxHeartbeats 16000000 in
theorem dread_7 (s : ByteArray) (hs : s.size ≤ 9223372036854775807) (w : World) (hk : (rdNum s 0 9).1 = 7) : Calls Try.prog 13 #[.string s] w (ReadP s w) := by
  have HX0 := Lib.hid (heap_alloc_new w (.cells #[(.int .i64 0), (.int .u32 0), (.int .u32 0), (.int .u64 0), (.int .u32 0), (.int .u64 0), (.int .u32 0), (.int .u64 0), (.int .u32 0), (.string ⟨#[]⟩), (.int .u8 0), (.bool false), (.slice none 0 0)] 30))
  have HB0 := Lib.hid (below_alloc' (Below.refl _ w) (.cells #[(.int .i64 0), (.int .u32 0), (.int .u32 0), (.int .u64 0), (.int .u32 0), (.int .u64 0), (.int .u32 0), (.int .u64 0), (.int .u32 0), (.string ⟨#[]⟩), (.int .u8 0), (.bool false), (.slice none 0 0)] 30))
  go_enter Try.func13, Try.ntmps13
  go_wp2_with ((with_reducible refine gate_dst (N := 11) rfl ?_); refine box_event ?hg (N := 11) ?hd (cs := #[.string s, .int .i64 0]) (t := 75) ?hr ?_; (case hd => rfl); (case hg => rfl); (case hr => kernel_rfl); intro g hgg w1 hbox hbb; have HX1 := Lib.hid ((hbb.block _ (lt_at2 HX0.out)).trans HX0.out); have HB1 := Lib.hid (HB0.out.trans (hbb.mono HB0.out.size)); have HN2 : Hid (w.heap.size ≠ g) := Lib.hid (by have := lt_at2 HX0.out; omega); have HI1 : Hid (PDr.IsS75 w w1 g s 0) := Lib.hid ⟨hbox, by have := lt_at2 HX0.out; omega⟩; clear hgg hbox hbb HX0 HB0)
  refine (dnumber 9 (by decide) HI1.out HB1.out hs).mono ?_
  rintro e w2 ⟨rfl, hl⟩
  have za := rdNum_facts s 0 9 (by decide)
  obtain ⟨a, ha⟩ : ∃ x, x = rdNum s 0 9 := ⟨_, rfl⟩
  rw [← ha] at hl za hk ⊢
  have EA := Lib.hid ha
  have zaz := za.2.2
  rw [hk]
  have HK0 := Lib.hid hk
  clear ha hk za
  have h2 := blk_keep HX1.out hl.2.2 HN2.out
  have h3 := heap_alloc_new w2 (.cells #[(.int .i64 0), (.int .u32 0), (.int .u32 0), (.int .u64 0), (.int .u32 0), (.int .u64 0), (.int .u32 0), (.int .u64 0), (.int .u32 0), (.string ⟨#[]⟩), (.int .u8 0), (.bool false), (.slice none 0 0)] 30)
  have hg1 := lt_at2 hl.1.1
  have h22 := lt_at2 h2
  have HA : Hid (PUt w g w.heap.size w2.heap.size) := Lib.hid ⟨Nat.le_refl _, by have := hl.2.1.size; omega, HN2.out, by omega, by omega⟩
  have HS1 : Hid (QSu w g w.heap.size w2.heap.size #[(.int .i64 0), (.int .u32 0), (.int .u32 0), (.int .u64 0), (.int .u32 0), (.int .u64 0), (.int .u32 0), (.int .u64 0), (.int .u32 0), (.string ⟨#[]⟩), (.int .u8 0), (.bool false), (.slice none 0 0)] a.2.1 a.2.2 #[(.int .i64 0), (.int .u32 0), (.int .u32 0), (.int .u64 0), (.int .u32 0), (.int .u64 0), (.int .u32 0), (.int .u64 0), (.int .u32 0), (.string ⟨#[]⟩), (.int .u8 0), (.bool false), (.slice none 0 0)] (w2.alloc (.cells #[(.int .i64 0), (.int .u32 0), (.int .u32 0), (.int .u64 0), (.int .u32 0), (.int .u64 0), (.int .u32 0), (.int .u64 0), (.int .u32 0), (.string ⟨#[]⟩), (.int .u8 0), (.bool false), (.slice none 0 0)] 30))) := Lib.hid ⟨hl.1.alloc _, below_alloc' hl.2.1 _, blk_alloc h2 _, h3⟩
  clear hl h2 h3 hg1 h22 HX1 HN2 HI1 HB1
  go_wp2_with ((with_reducible refine gate_store (t := 30) (p := 5) (v := .tmp 15) rfl ?_); refine store_ev2 (P := Try.prog) rfl 30 (.tmp 5) (.tmp 15) rfl rfl w2.heap.size 0 (.agg #[(.int .i64 7), (.int .u32 0), (.int .u32 0), (.int .u64 0), (.int .u32 0), (.int .u64 0), (.int .u32 0), (.int .u64 0), (.int .u32 0), (.string ⟨#[]⟩), (.int .u8 0), (.bool false), (.slice none 0 0)]) #[(.int .i64 7), (.int .u32 0), (.int .u32 0), (.int .u64 0), (.int .u32 0), (.int .u64 0), (.int .u32 0), (.int .u64 0), (.int .u32 0), (.string ⟨#[]⟩), (.int .u8 0), (.bool false), (.slice none 0 0)] rfl rfl rfl 30 _ #[(.int .i64 7), (.int .u32 0), (.int .u32 0), (.int .u64 0), (.int .u32 0), (.int .u64 0), (.int .u32 0), (.int .u64 0), (.int .u32 0), (.string ⟨#[]⟩), (.int .u8 0), (.bool false), (.slice none 0 0)] HS1.out.q (by kernel_rfl) (by show 0 + 13 ≤ 13; decide) (by kernel_rfl) (by kernel_rfl) ?_; intro w2s hq hk hb; have HS2 := Lib.hid (HS1.out.store HA.out hq hk hb); have x0 := (blk_cell HS2.out.q 0).trans (show _ = some (.int .i64 7) from rfl); clear hq hk hb)
  clear HS1
  generalize w2.heap.size = b3 at *
  clear x0
  refine (dnumber 4294967295 (by decide) HS2.out.i HS2.out.b (by omega)).mono ?_
  rintro e w3c ⟨rfl, hl⟩
  have zb := rdNum_facts a.2.1 a.2.2 4294967295 (by decide)
  obtain ⟨b, hb⟩ : ∃ x, x = rdNum a.2.1 a.2.2 4294967295 := ⟨_, rfl⟩
  rw [← hb] at hl zb ⊢
  have EB := Lib.hid hb
  clear hb
  have HS3 := Lib.hid (HS2.out.call HA.out hl)
  clear hl HS2 
  have x0 := (blk_cell HS3.out.q 0).trans (show _ = some (.int .i64 7) from rfl)
  have hwb : b.1 % 4294967296 = b.1 := Int.emod_eq_of_lt zb.1 (by omega)
  go_wp2_with ((with_reducible refine gate_store (t := 22) (p := 28) (v := .tmp 26) rfl ?_); refine store_ev2 (P := Try.prog) rfl 22 (.tmp 28) (.tmp 26) rfl rfl b3 1 (.int .u32 b.1) #[(.int .u32 b.1)] rfl rfl rfl 30 _ #[(.int .i64 7), (.int .u32 b.1), (.int .u32 0), (.int .u64 0), (.int .u32 0), (.int .u64 0), (.int .u32 0), (.int .u64 0), (.int .u32 0), (.string ⟨#[]⟩), (.int .u8 0), (.bool false), (.slice none 0 0)] HS3.out.q (by kernel_rfl) (by show 1 + 1 ≤ 13; decide) (by kernel_rfl) (by kernel_rfl) ?_; intro w4s hq hk hb; clear x0; have HS4 := Lib.hid (HS3.out.store HA.out hq hk hb); have x0 := (blk_cell HS4.out.q 0).trans (show _ = some (.int .i64 7) from rfl); clear hq hk hb)
  clear HS3 
  clear x0
  refine (dnumber 4294967295 (by decide) HS4.out.i HS4.out.b (by omega)).mono ?_
  rintro e w5c ⟨rfl, hl⟩
  have zb0 := rdNum_facts b.2.1 b.2.2 4294967295 (by decide)
  obtain ⟨b0, hb0⟩ : ∃ x, x = rdNum b.2.1 b.2.2 4294967295 := ⟨_, rfl⟩
  rw [← hb0] at hl zb0 ⊢
  have EB0 := Lib.hid hb0
  clear hb0
  have HS5 := Lib.hid (HS4.out.call HA.out hl)
  clear hl HS4 
  have x0 := (blk_cell HS5.out.q 0).trans (show _ = some (.int .i64 7) from rfl)
  have hwb0 : b0.1 % 4294967296 = b0.1 := Int.emod_eq_of_lt zb0.1 (by omega)
  go_wp2_with ((with_reducible refine gate_store (t := 22) (p := 33) (v := .tmp 31) rfl ?_); refine store_ev2 (P := Try.prog) rfl 22 (.tmp 33) (.tmp 31) rfl rfl b3 2 (.int .u32 b0.1) #[(.int .u32 b0.1)] rfl rfl rfl 30 _ #[(.int .i64 7), (.int .u32 b.1), (.int .u32 b0.1), (.int .u64 0), (.int .u32 0), (.int .u64 0), (.int .u32 0), (.int .u64 0), (.int .u32 0), (.string ⟨#[]⟩), (.int .u8 0), (.bool false), (.slice none 0 0)] HS5.out.q (by kernel_rfl) (by show 2 + 1 ≤ 13; decide) (by kernel_rfl) (by kernel_rfl) ?_; intro w6s hq hk hb; clear x0; have HS6 := Lib.hid (HS5.out.store HA.out hq hk hb); have x0 := (blk_cell HS6.out.q 0).trans (show _ = some (.int .i64 7) from rfl); clear hq hk hb)
  clear HS5 
  go_loop [7] (fun i => i = .int .i64 0) (fun _ => 1)
  case atStart => rfl
  case round =>
  subst hrel
  go_wp2_with fail
  clear x0
  refine (dend HS6.out.i HS6.out.b).mono ?_
  rintro e w7c ⟨rfl, hl⟩
  have HS7 := Lib.hid (HS6.out.call HA.out hl)
  clear hl HS6 
  obtain ⟨en, hen⟩ : ∃ en, en = rdEnd b0.2.1 b0.2.2 := ⟨_, rfl⟩
  rw [← hen]
  have HEN := Lib.hid hen
  clear hen
  have HRD : Hid (readE s = if en = 0 then (if rightE ⟨7, b.1, b0.1, 0, 0, 0, 0, 0, 0, ⟨#[]⟩, 0, false, []⟩ = true then (⟨7, b.1, b0.1, 0, 0, 0, 0, 0, 0, ⟨#[]⟩, 0, false, []⟩, 0) else (zE, 2)) else (zE, 2)) := Lib.hid (by
    have hp : rdE s = (⟨7, b.1, b0.1, 0, 0, 0, 0, 0, 0, ⟨#[]⟩, 0, false, []⟩, b0.2.1, b0.2.2) := by
      unfold rdE rdTail orX rdX
      rw [← EA.out, HK0.out]
      simp [hB, hS, hM, hA, hW, hT, hD, lstR, ← EB.out, ← EB0.out]
    unfold readE
    rw [hp, ← HEN.out])
  have HOK : Hid (EOk ⟨7, b.1, b0.1, 0, 0, 0, 0, 0, 0, ⟨#[]⟩, 0, false, []⟩) := Lib.hid (by
    have hp : (rdTail 7 a.2.1 a.2.2).1 = ⟨7, b.1, b0.1, 0, 0, 0, 0, 0, 0, ⟨#[]⟩, 0, false, []⟩ := by
      unfold rdTail orX rdX
      simp [hB, hS, hM, hA, hW, hT, hD, lstR, ← EB.out, ← EB0.out]
    rw [← hp]
    exact tailOk _ (by decide) _ _)
  rcases (show en = 0 ∨ en ≠ 0 from by omega) with he | he
  · subst he
    have HCC : Hid (EnIn w7c ⟨7, b.1, b0.1, 0, 0, 0, 0, 0, 0, ⟨#[]⟩, 0, false, []⟩ none 0) := Lib.hid ⟨Kd.C_nil _ _, Nat.le_refl _⟩
    cases hri : rightE ⟨7, b.1, b0.1, 0, 0, 0, 0, 0, 0, ⟨#[]⟩, 0, false, []⟩ with
    | false =>
      have HR2 : Hid (readE s = (zE, 2)) := Lib.hid (by rw [HRD.out, if_pos rfl, if_neg (by rw [hri]; decide)])
      have HRI := Lib.hid ((rright_calls ⟨7, b.1, b0.1, 0, 0, 0, 0, 0, 0, ⟨#[]⟩, 0, false, []⟩ none 0 w7c HCC.out HOK.out.ws).mono fun rr w' (h : rr = .returned (.bool (rightE ⟨7, b.1, b0.1, 0, 0, 0, 0, 0, 0, ⟨#[]⟩, 0, false, []⟩)) ∧ Below w7c.heap.size w7c w') => (⟨by rw [h.1, hri], h.2⟩ : rr = .returned (.bool false) ∧ Below w7c.heap.size w7c w'))
      have HRV := Lib.hid hri
      clear hri
      go_wp2_with (first | ((with_reducible refine gate_dst (N := 123) rfl ?_); refine wpList_load_row rfl 30 (.tmp 5) rfl b3 rfl 30 _ (0, 0) _ HS7.out.q Try.underlying30 rfl (by kernel_rfl) ?_) | ((with_reducible refine gate_dst (N := 123) rfl ?_); refine gate_guard (by rfl) ?_; refine wpList_load_row rfl 30 (.tmp 5) rfl b3 rfl 30 _ (0, 0) _ HS7.out.q Try.underlying30 rfl (by kernel_rfl) ?_))
      refine HRI.out.mono ?_
      rintro e wz ⟨rfl, hBr⟩
      have HSr := Lib.hid (HS7.out.below hBr)
      clear hBr
      go_wp2_with ((with_reducible refine gate_store (t := 30) (p := 2) (v := .tmp 127) rfl ?_); refine store_ev2 (P := Try.prog) rfl 30 (.tmp 2) (.tmp 127) rfl rfl w.heap.size 0 (.agg #[(.int .i64 0), (.int .u32 0), (.int .u32 0), (.int .u64 0), (.int .u32 0), (.int .u64 0), (.int .u32 0), (.int .u64 0), (.int .u32 0), (.string ⟨#[]⟩), (.int .u8 0), (.bool false), (.slice none 0 0)]) #[(.int .i64 0), (.int .u32 0), (.int .u32 0), (.int .u64 0), (.int .u32 0), (.int .u64 0), (.int .u32 0), (.int .u64 0), (.int .u32 0), (.string ⟨#[]⟩), (.int .u8 0), (.bool false), (.slice none 0 0)] rfl rfl rfl 30 _ #[(.int .i64 0), (.int .u32 0), (.int .u32 0), (.int .u64 0), (.int .u32 0), (.int .u64 0), (.int .u32 0), (.int .u64 0), (.int .u32 0), (.string ⟨#[]⟩), (.int .u8 0), (.bool false), (.slice none 0 0)] HSr.out.z (by kernel_rfl) (by show 0 + 13 ≤ 13; decide) (by kernel_rfl) (by kernel_rfl) ?_; intro w19 hq hk hb; have HZ9 := Lib.hid hq; have HB9 := Lib.hid (hb _ _ HA.out.a HSr.out.b); clear hq hk hb)
      refine bodyPost_ret (results_ct rfl _ _ w.heap.size 30 _ (0, 0) _ rfl HZ9.out Try.underlying30 rfl (by kernel_rfl)) rfl ?_
      exact ⟨none, 0, by rw [HR2.out]; rfl, by rw [HR2.out]; exact Kd.C_nil _ _, by rw [HR2.out]; exact Nat.le_refl _, HB9.out⟩
    | true =>
      have HR2 : Hid (readE s = (⟨7, b.1, b0.1, 0, 0, 0, 0, 0, 0, ⟨#[]⟩, 0, false, []⟩, 0)) := Lib.hid (by rw [HRD.out, if_pos rfl, if_pos hri])
      have HRI := Lib.hid ((rright_calls ⟨7, b.1, b0.1, 0, 0, 0, 0, 0, 0, ⟨#[]⟩, 0, false, []⟩ none 0 w7c HCC.out HOK.out.ws).mono fun rr w' (h : rr = .returned (.bool (rightE ⟨7, b.1, b0.1, 0, 0, 0, 0, 0, 0, ⟨#[]⟩, 0, false, []⟩)) ∧ Below w7c.heap.size w7c w') => (⟨by rw [h.1, hri], h.2⟩ : rr = .returned (.bool true) ∧ Below w7c.heap.size w7c w'))
      have HRV := Lib.hid hri
      clear hri
      go_wp2_with (first | ((with_reducible refine gate_dst (N := 123) rfl ?_); refine wpList_load_row rfl 30 (.tmp 5) rfl b3 rfl 30 _ (0, 0) _ HS7.out.q Try.underlying30 rfl (by kernel_rfl) ?_) | ((with_reducible refine gate_dst (N := 123) rfl ?_); refine gate_guard (by rfl) ?_; refine wpList_load_row rfl 30 (.tmp 5) rfl b3 rfl 30 _ (0, 0) _ HS7.out.q Try.underlying30 rfl (by kernel_rfl) ?_))
      refine HRI.out.mono ?_
      rintro e wz ⟨rfl, hBr⟩
      have HSr := Lib.hid (HS7.out.below hBr)
      clear hBr
      go_wp2_with (first | ((with_reducible refine gate_dst (N := 128) rfl ?_); refine wpList_load_row rfl 30 (.tmp 5) rfl b3 rfl 30 _ (0, 0) _ HSr.out.q Try.underlying30 rfl (by kernel_rfl) ?_) | ((with_reducible refine gate_store (t := 30) (p := 2) (v := .tmp 128) rfl ?_); refine store_ev2 (P := Try.prog) rfl 30 (.tmp 2) (.tmp 128) rfl rfl w.heap.size 0 (.agg #[(.int .i64 7), (.int .u32 b.1), (.int .u32 b0.1), (.int .u64 0), (.int .u32 0), (.int .u64 0), (.int .u32 0), (.int .u64 0), (.int .u32 0), (.string ⟨#[]⟩), (.int .u8 0), (.bool false), (.slice none 0 0)]) #[(.int .i64 7), (.int .u32 b.1), (.int .u32 b0.1), (.int .u64 0), (.int .u32 0), (.int .u64 0), (.int .u32 0), (.int .u64 0), (.int .u32 0), (.string ⟨#[]⟩), (.int .u8 0), (.bool false), (.slice none 0 0)] rfl rfl rfl 30 _ #[(.int .i64 7), (.int .u32 b.1), (.int .u32 b0.1), (.int .u64 0), (.int .u32 0), (.int .u64 0), (.int .u32 0), (.int .u64 0), (.int .u32 0), (.string ⟨#[]⟩), (.int .u8 0), (.bool false), (.slice none 0 0)] HSr.out.z (by kernel_rfl) (by show 0 + 13 ≤ 13; decide) (by kernel_rfl) (by kernel_rfl) ?_; intro w19 hq hk hb; have HZ9 := Lib.hid hq; have HB9 := Lib.hid (hb _ _ HA.out.a HSr.out.b); clear hq hk hb))
      refine bodyPost_ret (results_ct rfl _ _ w.heap.size 30 _ (0, 0) _ rfl HZ9.out Try.underlying30 rfl (by kernel_rfl)) rfl ?_
      exact ⟨none, 0, by rw [HR2.out]; rfl, by rw [HR2.out]; exact Kd.C_nil _ _, by rw [HR2.out]; exact Nat.le_refl _, HB9.out⟩
  · have HR2 : Hid (readE s = (zE, 2)) := Lib.hid (by rw [HRD.out, if_neg he])
    have heb : (en == 0) = false := by simpa using he
    have heb2 : (en != 0) = true := by simpa using he
    go_wp2_with ((with_reducible refine gate_store (t := 30) (p := 2) (v := .tmp 127) rfl ?_); refine store_ev2 (P := Try.prog) rfl 30 (.tmp 2) (.tmp 127) rfl rfl w.heap.size 0 (.agg #[(.int .i64 0), (.int .u32 0), (.int .u32 0), (.int .u64 0), (.int .u32 0), (.int .u64 0), (.int .u32 0), (.int .u64 0), (.int .u32 0), (.string ⟨#[]⟩), (.int .u8 0), (.bool false), (.slice none 0 0)]) #[(.int .i64 0), (.int .u32 0), (.int .u32 0), (.int .u64 0), (.int .u32 0), (.int .u64 0), (.int .u32 0), (.int .u64 0), (.int .u32 0), (.string ⟨#[]⟩), (.int .u8 0), (.bool false), (.slice none 0 0)] rfl rfl rfl 30 _ #[(.int .i64 0), (.int .u32 0), (.int .u32 0), (.int .u64 0), (.int .u32 0), (.int .u64 0), (.int .u32 0), (.int .u64 0), (.int .u32 0), (.string ⟨#[]⟩), (.int .u8 0), (.bool false), (.slice none 0 0)] HS7.out.z (by kernel_rfl) (by show 0 + 13 ≤ 13; decide) (by kernel_rfl) (by kernel_rfl) ?_; intro w19 hq hk hb; have HZ9 := Lib.hid hq; have HB9 := Lib.hid (hb _ _ HA.out.a HS7.out.b); clear hq hk hb)
    refine bodyPost_ret (results_ct rfl _ _ w.heap.size 30 _ (0, 0) _ rfl HZ9.out Try.underlying30 rfl (by kernel_rfl)) rfl ?_
    exact ⟨none, 0, by rw [HR2.out]; rfl, by rw [HR2.out]; exact Kd.C_nil _ _, by rw [HR2.out]; exact Nat.le_refl _, HB9.out⟩
set_option maxRecDepth 100000 in
set_option maxHeartbeats 16000000 in
theorem dread_8 (s : ByteArray) (hs : s.size ≤ 9223372036854775807) (w : World) (hk : (rdNum s 0 9).1 = 8) : Calls Try.prog 13 #[.string s] w (ReadP s w) := by
  have HX0 := Lib.hid (heap_alloc_new w (.cells #[(.int .i64 0), (.int .u32 0), (.int .u32 0), (.int .u64 0), (.int .u32 0), (.int .u64 0), (.int .u32 0), (.int .u64 0), (.int .u32 0), (.string ⟨#[]⟩), (.int .u8 0), (.bool false), (.slice none 0 0)] 30))
  have HB0 := Lib.hid (below_alloc' (Below.refl _ w) (.cells #[(.int .i64 0), (.int .u32 0), (.int .u32 0), (.int .u64 0), (.int .u32 0), (.int .u64 0), (.int .u32 0), (.int .u64 0), (.int .u32 0), (.string ⟨#[]⟩), (.int .u8 0), (.bool false), (.slice none 0 0)] 30))
  go_enter Try.func13, Try.ntmps13
  go_wp2_with ((with_reducible refine gate_dst (N := 11) rfl ?_); refine box_event ?hg (N := 11) ?hd (cs := #[.string s, .int .i64 0]) (t := 75) ?hr ?_; (case hd => rfl); (case hg => rfl); (case hr => kernel_rfl); intro g hgg w1 hbox hbb; have HX1 := Lib.hid ((hbb.block _ (lt_at2 HX0.out)).trans HX0.out); have HB1 := Lib.hid (HB0.out.trans (hbb.mono HB0.out.size)); have HN2 : Hid (w.heap.size ≠ g) := Lib.hid (by have := lt_at2 HX0.out; omega); have HI1 : Hid (PDr.IsS75 w w1 g s 0) := Lib.hid ⟨hbox, by have := lt_at2 HX0.out; omega⟩; clear hgg hbox hbb HX0 HB0)
  refine (dnumber 9 (by decide) HI1.out HB1.out hs).mono ?_
  rintro e w2 ⟨rfl, hl⟩
  have za := rdNum_facts s 0 9 (by decide)
  obtain ⟨a, ha⟩ : ∃ x, x = rdNum s 0 9 := ⟨_, rfl⟩
  rw [← ha] at hl za hk ⊢
  have EA := Lib.hid ha
  have zaz := za.2.2
  rw [hk]
  have HK0 := Lib.hid hk
  clear ha hk za
  have h2 := blk_keep HX1.out hl.2.2 HN2.out
  have h3 := heap_alloc_new w2 (.cells #[(.int .i64 0), (.int .u32 0), (.int .u32 0), (.int .u64 0), (.int .u32 0), (.int .u64 0), (.int .u32 0), (.int .u64 0), (.int .u32 0), (.string ⟨#[]⟩), (.int .u8 0), (.bool false), (.slice none 0 0)] 30)
  have hg1 := lt_at2 hl.1.1
  have h22 := lt_at2 h2
  have HA : Hid (PUt w g w.heap.size w2.heap.size) := Lib.hid ⟨Nat.le_refl _, by have := hl.2.1.size; omega, HN2.out, by omega, by omega⟩
  have HS1 : Hid (QSu w g w.heap.size w2.heap.size #[(.int .i64 0), (.int .u32 0), (.int .u32 0), (.int .u64 0), (.int .u32 0), (.int .u64 0), (.int .u32 0), (.int .u64 0), (.int .u32 0), (.string ⟨#[]⟩), (.int .u8 0), (.bool false), (.slice none 0 0)] a.2.1 a.2.2 #[(.int .i64 0), (.int .u32 0), (.int .u32 0), (.int .u64 0), (.int .u32 0), (.int .u64 0), (.int .u32 0), (.int .u64 0), (.int .u32 0), (.string ⟨#[]⟩), (.int .u8 0), (.bool false), (.slice none 0 0)] (w2.alloc (.cells #[(.int .i64 0), (.int .u32 0), (.int .u32 0), (.int .u64 0), (.int .u32 0), (.int .u64 0), (.int .u32 0), (.int .u64 0), (.int .u32 0), (.string ⟨#[]⟩), (.int .u8 0), (.bool false), (.slice none 0 0)] 30))) := Lib.hid ⟨hl.1.alloc _, below_alloc' hl.2.1 _, blk_alloc h2 _, h3⟩
  clear hl h2 h3 hg1 h22 HX1 HN2 HI1 HB1
  go_wp2_with ((with_reducible refine gate_store (t := 30) (p := 5) (v := .tmp 15) rfl ?_); refine store_ev2 (P := Try.prog) rfl 30 (.tmp 5) (.tmp 15) rfl rfl w2.heap.size 0 (.agg #[(.int .i64 8), (.int .u32 0), (.int .u32 0), (.int .u64 0), (.int .u32 0), (.int .u64 0), (.int .u32 0), (.int .u64 0), (.int .u32 0), (.string ⟨#[]⟩), (.int .u8 0), (.bool false), (.slice none 0 0)]) #[(.int .i64 8), (.int .u32 0), (.int .u32 0), (.int .u64 0), (.int .u32 0), (.int .u64 0), (.int .u32 0), (.int .u64 0), (.int .u32 0), (.string ⟨#[]⟩), (.int .u8 0), (.bool false), (.slice none 0 0)] rfl rfl rfl 30 _ #[(.int .i64 8), (.int .u32 0), (.int .u32 0), (.int .u64 0), (.int .u32 0), (.int .u64 0), (.int .u32 0), (.int .u64 0), (.int .u32 0), (.string ⟨#[]⟩), (.int .u8 0), (.bool false), (.slice none 0 0)] HS1.out.q (by kernel_rfl) (by show 0 + 13 ≤ 13; decide) (by kernel_rfl) (by kernel_rfl) ?_; intro w2s hq hk hb; have HS2 := Lib.hid (HS1.out.store HA.out hq hk hb); have x0 := (blk_cell HS2.out.q 0).trans (show _ = some (.int .i64 8) from rfl); clear hq hk hb)
  clear HS1
  generalize w2.heap.size = b3 at *
  clear x0
  refine (dnumber 4294967295 (by decide) HS2.out.i HS2.out.b (by omega)).mono ?_
  rintro e w3c ⟨rfl, hl⟩
  have zb := rdNum_facts a.2.1 a.2.2 4294967295 (by decide)
  obtain ⟨b, hb⟩ : ∃ x, x = rdNum a.2.1 a.2.2 4294967295 := ⟨_, rfl⟩
  rw [← hb] at hl zb ⊢
  have EB := Lib.hid hb
  clear hb
  have HS3 := Lib.hid (HS2.out.call HA.out hl)
  clear hl HS2 
  have x0 := (blk_cell HS3.out.q 0).trans (show _ = some (.int .i64 8) from rfl)
  have hwb : b.1 % 4294967296 = b.1 := Int.emod_eq_of_lt zb.1 (by omega)
  go_wp2_with ((with_reducible refine gate_store (t := 22) (p := 28) (v := .tmp 26) rfl ?_); refine store_ev2 (P := Try.prog) rfl 22 (.tmp 28) (.tmp 26) rfl rfl b3 1 (.int .u32 b.1) #[(.int .u32 b.1)] rfl rfl rfl 30 _ #[(.int .i64 8), (.int .u32 b.1), (.int .u32 0), (.int .u64 0), (.int .u32 0), (.int .u64 0), (.int .u32 0), (.int .u64 0), (.int .u32 0), (.string ⟨#[]⟩), (.int .u8 0), (.bool false), (.slice none 0 0)] HS3.out.q (by kernel_rfl) (by show 1 + 1 ≤ 13; decide) (by kernel_rfl) (by kernel_rfl) ?_; intro w4s hq hk hb; clear x0; have HS4 := Lib.hid (HS3.out.store HA.out hq hk hb); have x0 := (blk_cell HS4.out.q 0).trans (show _ = some (.int .i64 8) from rfl); clear hq hk hb)
  clear HS3 
  clear x0
  refine (dnumber 4294967295 (by decide) HS4.out.i HS4.out.b (by omega)).mono ?_
  rintro e w5c ⟨rfl, hl⟩
  have zb0 := rdNum_facts b.2.1 b.2.2 4294967295 (by decide)
  obtain ⟨b0, hb0⟩ : ∃ x, x = rdNum b.2.1 b.2.2 4294967295 := ⟨_, rfl⟩
  rw [← hb0] at hl zb0 ⊢
  have EB0 := Lib.hid hb0
  clear hb0
  have HS5 := Lib.hid (HS4.out.call HA.out hl)
  clear hl HS4 
  have x0 := (blk_cell HS5.out.q 0).trans (show _ = some (.int .i64 8) from rfl)
  have hwb0 : b0.1 % 4294967296 = b0.1 := Int.emod_eq_of_lt zb0.1 (by omega)
  go_wp2_with ((with_reducible refine gate_store (t := 22) (p := 33) (v := .tmp 31) rfl ?_); refine store_ev2 (P := Try.prog) rfl 22 (.tmp 33) (.tmp 31) rfl rfl b3 2 (.int .u32 b0.1) #[(.int .u32 b0.1)] rfl rfl rfl 30 _ #[(.int .i64 8), (.int .u32 b.1), (.int .u32 b0.1), (.int .u64 0), (.int .u32 0), (.int .u64 0), (.int .u32 0), (.int .u64 0), (.int .u32 0), (.string ⟨#[]⟩), (.int .u8 0), (.bool false), (.slice none 0 0)] HS5.out.q (by kernel_rfl) (by show 2 + 1 ≤ 13; decide) (by kernel_rfl) (by kernel_rfl) ?_; intro w6s hq hk hb; clear x0; have HS6 := Lib.hid (HS5.out.store HA.out hq hk hb); have x0 := (blk_cell HS6.out.q 0).trans (show _ = some (.int .i64 8) from rfl); clear hq hk hb)
  clear HS5 
  clear x0
  refine (dstamp HS6.out.i HS6.out.b (by omega)).mono ?_
  rintro e w7c ⟨rfl, hl⟩
  have zf := stamp_sz b0.2.1 b0.2.2
  obtain ⟨f, hf⟩ : ∃ x, x = rdStamp b0.2.1 b0.2.2 := ⟨_, rfl⟩
  rw [← hf] at hl zf ⊢
  have EF := Lib.hid hf
  clear hf
  have HS7 := Lib.hid (HS6.out.call HA.out hl)
  clear hl HS6 
  have x0 := (blk_cell HS7.out.q 0).trans (show _ = some (.int .i64 8) from rfl)
  go_wp2_with ((with_reducible refine gate_store (t := 27) (p := 80) (v := .tmp 79) rfl ?_); refine store_ev2 (P := Try.prog) rfl 27 (.tmp 80) (.tmp 79) rfl rfl b3 5 (.agg #[.int .u64 f.1, .int .u32 f.2.1]) #[(.int .u64 f.1), (.int .u32 f.2.1)] rfl rfl rfl 30 _ #[(.int .i64 8), (.int .u32 b.1), (.int .u32 b0.1), (.int .u64 0), (.int .u32 0), (.int .u64 f.1), (.int .u32 f.2.1), (.int .u64 0), (.int .u32 0), (.string ⟨#[]⟩), (.int .u8 0), (.bool false), (.slice none 0 0)] HS7.out.q (by kernel_rfl) (by show 5 + 2 ≤ 13; decide) (by kernel_rfl) (by kernel_rfl) ?_; intro w8s hq hk hb; clear x0; have HS8 := Lib.hid (HS7.out.store HA.out hq hk hb); have x0 := (blk_cell HS8.out.q 0).trans (show _ = some (.int .i64 8) from rfl); clear hq hk hb)
  clear HS7 
  have HS0 := HS8
  clear HS8 x0
  go_loopg [7] (1 + 1) (fun gk v7 wr => ∃ (i : Nat) (A : Option Addr) (L cp : Nat), i ≤ 1 ∧ v7 = .int .i64 (i : Int) ∧ Aside0 (i + gk = 1 + 1) ∧ Aside0 (Kd.R k54 54 wr w.heap.size (fun _ => True) (.slice A L cp) (lstR rdW i f.2.2.1 f.2.2.2).1) ∧ Aside0 (QSu w g w.heap.size b3 #[(.int .i64 0), (.int .u32 0), (.int .u32 0), (.int .u64 0), (.int .u32 0), (.int .u64 0), (.int .u32 0), (.int .u64 0), (.int .u32 0), (.string ⟨#[]⟩), (.int .u8 0), (.bool false), (.slice none 0 0)] (lstR rdW i f.2.2.1 f.2.2.2).2.1 (lstR rdW i f.2.2.1 f.2.2.2).2.2 #[(.int .i64 8), (.int .u32 b.1), (.int .u32 b0.1), (.int .u64 0), (.int .u32 0), (.int .u64 f.1), (.int .u32 f.2.1), (.int .u64 0), (.int .u32 0), (.string ⟨#[]⟩), (.int .u8 0), (.bool false), (.slice A L cp)] wr))
  case atStart => exact ⟨0, none, 0, 0, Nat.zero_le _, rfl, ⟨by omega⟩, ⟨Kd.R_nil _ _ _ _ _⟩, ⟨HS0.out⟩⟩
  case round =>
  obtain ⟨i, A, L, cp, hi, rfl, ⟨hgk⟩, ⟨hR⟩, ⟨hS⟩⟩ := hrel
  have HG := Lib.hid hgk
  have hsl := lst_sz rdW w_sz i f.2.2.1 f.2.2.2
  have hll := lst_len rdW i f.2.2.1 f.2.2.2
  obtain ⟨r, hr⟩ : ∃ r, r = (lstR rdW i f.2.2.1 f.2.2.2) := ⟨_, rfl⟩
  rw [← hr] at hR hS hsl hll
  have ER := Lib.hid hr
  have HR1 := Lib.hid hR
  have HS1 := Lib.hid hS
  have HLX := Lib.hid hll
  clear hgk hR hS hr hll HS0
  rcases (show i = 0 ∨ i = 1 by omega) with rfl | rfl
  · as_aux_lemma =>
      go_wp2_with fail
      refine (dtext 1 32 HS1.out.i HS1.out.b (by omega) (by decide) (by decide)).mono ?_
      rintro e w2 ⟨rfl, hl⟩
      have HR2 := Lib.hid (R_thru2 HR1.out HS1.out.i.1 (by decide) hl.2.2)
      have zp := text_sz r.2.1 r.2.2 1 32
      obtain ⟨p, hp⟩ : ∃ x, x = rdText r.2.1 r.2.2 1 32 := ⟨_, rfl⟩
      rw [← hp] at hl zp ⊢
      have EP := Lib.hid hp
      have HS2 := Lib.hid (HS1.out.call HA.out hl)
      clear hl hp HS1 HR1 
      have HX2a := Lib.hid (heap_alloc_new w2 (.cells #[.string ⟨#[]⟩, .string ⟨#[]⟩, .bool false] 54))
      have HS2a := Lib.hid (HS2.out.alloc (.cells #[.string ⟨#[]⟩, .string ⟨#[]⟩, .bool false] 54))
      have HR2a := Lib.hid (R_apart2 HR2.out (.cells #[.string ⟨#[]⟩, .string ⟨#[]⟩, .bool false] 54))
      have H36 : Hid (g ≠ w2.heap.size ∧ w.heap.size ≠ w2.heap.size ∧ b3 ≠ w2.heap.size ∧ w.heap.size ≤ w2.heap.size) := Lib.hid ⟨by have := lt_at2 HS2.out.i.1; omega, by have := lt_at2 HS2.out.z; omega, by have := lt_at2 HS2.out.q; omega, HS2.out.b.size⟩
      have HNG : Hid (w2.heap.size ≠ g) := Lib.hid (by have := lt_at2 HS2.out.i.1; omega)
      clear HS2 HR2
      go_wp2_with ((with_reducible refine gate_store (t := 54) (p := 8) (v := .tmp 88) rfl ?_); refine store_ev2 (P := Try.prog) rfl 54 (.tmp 8) (.tmp 88) rfl rfl w2.heap.size 0 (.agg #[(.string p.1), (.string ⟨#[]⟩), (.bool false)]) #[(.string p.1), (.string ⟨#[]⟩), (.bool false)] rfl rfl rfl 54 _ #[(.string p.1), (.string ⟨#[]⟩), (.bool false)] HX2a.out (by kernel_rfl) (by show 0 + 3 ≤ 3; decide) (by kernel_rfl) (by kernel_rfl) ?_; intro w3 hq hk hb; have HX3 := Lib.hid hq; have HR3 := Lib.hid (R_keep2 HR2a.out hk); have HS3 := Lib.hid (HS2a.out.other hk hb H36.out); clear hq hk hb)
      clear HX2a HS2a HR2a
      generalize w2.heap.size = b6 at HX3 HR3 HS3 H36 HNG ⊢
      refine (dflag HS3.out.i HS3.out.b).mono ?_
      rintro e w4 ⟨rfl, hl⟩
      have HR4 := Lib.hid (R_thru2 HR3.out HS3.out.i.1 (by decide) hl.2.2)
      have HX4 := Lib.hid (blk_keep2 HX3.out hl.2.2 HNG.out)
      have zq1 := flag_sz p.2.1 p.2.2
      obtain ⟨q1, hq1⟩ : ∃ x, x = rdFlag p.2.1 p.2.2 := ⟨_, rfl⟩
      rw [← hq1] at hl zq1 ⊢
      have EQ1 := Lib.hid hq1
      have HS4 := Lib.hid (HS3.out.call HA.out hl)
      clear hl hq1 HS3 HR3 HX3
      go_wp2_with ((with_reducible refine gate_store (t := 4) (p := 91) (v := .tmp 90) rfl ?_); refine store_ev2 (P := Try.prog) rfl 4 (.tmp 91) (.tmp 90) rfl rfl b6 2 (.bool q1.1) #[(.bool q1.1)] rfl rfl rfl 54 _ #[(.string p.1), (.string ⟨#[]⟩), (.bool q1.1)] HX4.out (by kernel_rfl) (by show 2 + 1 ≤ 3; decide) (by kernel_rfl) (by kernel_rfl) ?_; intro w5 hq hk hb; have HX5 := Lib.hid hq; have HR5 := Lib.hid (R_keep2 HR4.out hk); have HS5 := Lib.hid (HS4.out.other hk hb H36.out); clear hq hk hb)
      clear HX4 HS4 HR4
      refine (dtext 0 256 HS5.out.i HS5.out.b (by omega) (by decide) (by decide)).mono ?_
      rintro e w6 ⟨rfl, hl⟩
      have HR6 := Lib.hid (R_thru2 HR5.out HS5.out.i.1 (by decide) hl.2.2)
      have HX6 := Lib.hid (blk_keep2 HX5.out hl.2.2 HNG.out)
      have zu := text_sz q1.2.1 q1.2.2 0 256
      obtain ⟨u, hu⟩ : ∃ x, x = rdText q1.2.1 q1.2.2 0 256 := ⟨_, rfl⟩
      rw [← hu] at hl zu ⊢
      have EU := Lib.hid hu
      have HS6 := Lib.hid (HS5.out.call HA.out hl)
      clear hl hu HS5 HR5 HX5
      go_wp2_with (first | ((with_reducible refine gate_store (t := 9) (p := 94) (v := .tmp 93) rfl ?_); refine store_ev2 (P := Try.prog) rfl 9 (.tmp 94) (.tmp 93) rfl rfl b6 1 (.string u.1) #[(.string u.1)] rfl rfl rfl 54 _ #[(.string p.1), (.string u.1), (.bool q1.1)] HX6.out (by kernel_rfl) (by show 1 + 1 ≤ 3; decide) (by kernel_rfl) (by kernel_rfl) ?_; intro w7 hq hk hb; have HX7 := Lib.hid hq; have HR7 := Lib.hid (R_keep2 HR6.out hk); have HS7 := Lib.hid (HS6.out.other hk hb H36.out); have x12 := (blk_cell HS7.out.q 12).trans (show _ = some (.slice A L cp) from rfl); clear hq hk hb) | ((with_reducible refine gate_dst (N := 97) rfl ?_); refine wpList_load_row rfl 54 (.tmp 8) rfl b6 rfl 54 _ (0, 0) _ HX7.out Try.underlying54 rfl (by kernel_rfl) ?_) | ((with_reducible refine gate_dst (N := 99) rfl ?_); refine Kd.R_append k54 w.heap.size rfl (.tmp 96) (.tmp 98) 28 54 (.agg #[(.string ⟨#[]⟩), (.string ⟨#[]⟩), (.bool false)]) 40 rfl Try.underlying28 info54 rfl (by decide) (by omega) (.slice A L cp) r.1 (⟨p.1, u.1, q1.1⟩ : S54) [.string p.1, .string u.1, .bool q1.1] (fun _ => True) (fun _ => False) rfl rfl ?aP (fun _ hk => hk.elim) (fun _ _ => trivial) (R_free2 HR7.out) (Below.refl _ _) HS7.out.b.size ?aL ?_; (case aP => exact k54_mkM _ _ _ (⟨p.1, u.1, q1.1⟩ : S54)); (case aL => have := HLX.out; omega); intro v8 w8 hR hb hg hat; have HS8 := Lib.hid (HS7.out.grown (R_free2 HR7.out) (by decide) (by decide) hg hb); obtain ⟨A8, c8, e8, hz8, _⟩ := Kd.R_reads hR; obtain rfl := e8.trans (congrArg (fun n => Value.slice A8 n c8) (List.length_append : (r.1 ++ [(⟨p.1, u.1, q1.1⟩ : S54)]).length = r.1.length + 1)); have HR8 := Lib.hid hR; clear e8 hz8 hR hb hg hat x12) | ((with_reducible refine gate_store (t := 28) (p := 100) (v := .tmp 99) rfl ?_); refine store_ev2 (P := Try.prog) rfl 28 (.tmp 100) (.tmp 99) rfl rfl b3 12 (.slice A8 (r.1.length + 1) c8) #[(.slice A8 (r.1.length + 1) c8)] rfl rfl rfl 30 _ #[(.int .i64 8), (.int .u32 b.1), (.int .u32 b0.1), (.int .u64 0), (.int .u32 0), (.int .u64 f.1), (.int .u32 f.2.1), (.int .u64 0), (.int .u32 0), (.string ⟨#[]⟩), (.int .u8 0), (.bool false), (.slice A8 (r.1.length + 1) c8)] HS8.out.q (by kernel_rfl) (by show 12 + 1 ≤ 13; decide) (by kernel_rfl) (by kernel_rfl) ?_; intro w9 hq hk hb; have HS9 := Lib.hid (HS8.out.store HA.out hq hk hb); have HR9 := Lib.hid (R_thru2 HR8.out HS8.out.q (by decide) hk); clear hq hk hb))
      go_roundg (gk - 1)
      case measure => have := HG.out; omega
      have hs : lstR rdW (0 + 1) f.2.2.1 f.2.2.2 = (r.1 ++ [(⟨p.1, u.1, q1.1⟩ : S54)], u.2.1, u.2.2) := by rw [lst_snoc, ← ER.out]; simp only [rdW, ← EP.out, ← EQ1.out, ← EU.out]
      case rel => exact ⟨0 + 1, A8, _, c8, by omega, rfl, ⟨by have := HG.out; omega⟩, ⟨by rw [hs]; exact HR9.out⟩, ⟨by rw [hs]; exact HS9.out⟩⟩
  · skip
    obtain rfl := (Kd.R_reads' HR1.out).1
    have HRx := HR1
    have HSx := HS1
    have zl := hsl
    have EL := ER
    clear HR1 HS1 ER HG HLX hsl
    have HR100 := HRx
    have HS100 := HSx
    clear HRx HSx
    have x0 := (blk_cell HS100.out.q 0).trans (show _ = some (.int .i64 8) from rfl)
    go_wp2_with fail
    clear x0
    refine (dend HS100.out.i HS100.out.b).mono ?_
    rintro e w101c ⟨rfl, hl⟩
    have HR101 := Lib.hid (R_thru2 HR100.out HS100.out.i.1 (by decide) hl.2.2)
    have HS101 := Lib.hid (HS100.out.call HA.out hl)
    clear hl HS100 HR100
    obtain ⟨en, hen⟩ : ∃ en, en = rdEnd r.2.1 r.2.2 := ⟨_, rfl⟩
    rw [← hen]
    have HEN := Lib.hid hen
    clear hen
    have HRD : Hid (readE s = if en = 0 then (if rightE ⟨8, b.1, b0.1, 0, 0, f.1, f.2.1, 0, 0, ⟨#[]⟩, 0, false, r.1⟩ = true then (⟨8, b.1, b0.1, 0, 0, f.1, f.2.1, 0, 0, ⟨#[]⟩, 0, false, r.1⟩, 0) else (zE, 2)) else (zE, 2)) := Lib.hid (by
      have hp : rdE s = (⟨8, b.1, b0.1, 0, 0, f.1, f.2.1, 0, 0, ⟨#[]⟩, 0, false, r.1⟩, r.2.1, r.2.2) := by
        unfold rdE rdTail orX rdX
        rw [← EA.out, HK0.out]
        simp [hB, hS, hM, hA, hW, hT, hD, ← EB.out, ← EB0.out, ← EF.out, ← EL.out]
      unfold readE
      rw [hp, ← HEN.out])
    have HOK : Hid (EOk ⟨8, b.1, b0.1, 0, 0, f.1, f.2.1, 0, 0, ⟨#[]⟩, 0, false, r.1⟩) := Lib.hid (by
      have hp : (rdTail 8 a.2.1 a.2.2).1 = ⟨8, b.1, b0.1, 0, 0, f.1, f.2.1, 0, 0, ⟨#[]⟩, 0, false, r.1⟩ := by
        unfold rdTail orX rdX
        simp [hB, hS, hM, hA, hW, hT, hD, ← EB.out, ← EB0.out, ← EF.out, ← EL.out]
      rw [← hp]
      exact tailOk _ (by decide) _ _)
    rcases (show en = 0 ∨ en ≠ 0 from by omega) with he | he
    · subst he
      have HCC : Hid (EnIn w101c ⟨8, b.1, b0.1, 0, 0, f.1, f.2.1, 0, 0, ⟨#[]⟩, 0, false, r.1⟩ A cp) := Lib.hid ⟨(Kd.R_reads' HR101.out).2.2, (Kd.R_reads' HR101.out).2.1⟩
      cases hri : rightE ⟨8, b.1, b0.1, 0, 0, f.1, f.2.1, 0, 0, ⟨#[]⟩, 0, false, r.1⟩ with
      | false =>
        have HR2 : Hid (readE s = (zE, 2)) := Lib.hid (by rw [HRD.out, if_pos rfl, if_neg (by rw [hri]; decide)])
        have HRI := Lib.hid ((rright_calls ⟨8, b.1, b0.1, 0, 0, f.1, f.2.1, 0, 0, ⟨#[]⟩, 0, false, r.1⟩ A cp w101c HCC.out HOK.out.ws).mono fun rr w' (h : rr = .returned (.bool (rightE ⟨8, b.1, b0.1, 0, 0, f.1, f.2.1, 0, 0, ⟨#[]⟩, 0, false, r.1⟩)) ∧ Below w101c.heap.size w101c w') => (⟨by rw [h.1, hri], h.2⟩ : rr = .returned (.bool false) ∧ Below w101c.heap.size w101c w'))
        have HRV := Lib.hid hri
        clear hri
        go_wp2_with (first | ((with_reducible refine gate_dst (N := 123) rfl ?_); refine wpList_load_row rfl 30 (.tmp 5) rfl b3 rfl 30 _ (0, 0) _ HS101.out.q Try.underlying30 rfl (by kernel_rfl) ?_) | ((with_reducible refine gate_dst (N := 123) rfl ?_); refine gate_guard (by rfl) ?_; refine wpList_load_row rfl 30 (.tmp 5) rfl b3 rfl 30 _ (0, 0) _ HS101.out.q Try.underlying30 rfl (by kernel_rfl) ?_))
        refine HRI.out.mono ?_
        rintro e wz ⟨rfl, hBr⟩
        have HSr := Lib.hid (HS101.out.below hBr)
        have HRr := Lib.hid (Kd.R_below HR101.out hBr)
        clear hBr
        go_wp2_with ((with_reducible refine gate_store (t := 30) (p := 2) (v := .tmp 127) rfl ?_); refine store_ev2 (P := Try.prog) rfl 30 (.tmp 2) (.tmp 127) rfl rfl w.heap.size 0 (.agg #[(.int .i64 0), (.int .u32 0), (.int .u32 0), (.int .u64 0), (.int .u32 0), (.int .u64 0), (.int .u32 0), (.int .u64 0), (.int .u32 0), (.string ⟨#[]⟩), (.int .u8 0), (.bool false), (.slice none 0 0)]) #[(.int .i64 0), (.int .u32 0), (.int .u32 0), (.int .u64 0), (.int .u32 0), (.int .u64 0), (.int .u32 0), (.int .u64 0), (.int .u32 0), (.string ⟨#[]⟩), (.int .u8 0), (.bool false), (.slice none 0 0)] rfl rfl rfl 30 _ #[(.int .i64 0), (.int .u32 0), (.int .u32 0), (.int .u64 0), (.int .u32 0), (.int .u64 0), (.int .u32 0), (.int .u64 0), (.int .u32 0), (.string ⟨#[]⟩), (.int .u8 0), (.bool false), (.slice none 0 0)] HSr.out.z (by kernel_rfl) (by show 0 + 13 ≤ 13; decide) (by kernel_rfl) (by kernel_rfl) ?_; intro w19 hq hk hb; have HZ9 := Lib.hid hq; have HB9 := Lib.hid (hb _ _ HA.out.a HSr.out.b); clear hq hk hb)
        refine bodyPost_ret (results_ct rfl _ _ w.heap.size 30 _ (0, 0) _ rfl HZ9.out Try.underlying30 rfl (by kernel_rfl)) rfl ?_
        exact ⟨none, 0, by rw [HR2.out]; rfl, by rw [HR2.out]; exact Kd.C_nil _ _, by rw [HR2.out]; exact Nat.le_refl _, HB9.out⟩
      | true =>
        have HR2 : Hid (readE s = (⟨8, b.1, b0.1, 0, 0, f.1, f.2.1, 0, 0, ⟨#[]⟩, 0, false, r.1⟩, 0)) := Lib.hid (by rw [HRD.out, if_pos rfl, if_pos hri])
        have HRI := Lib.hid ((rright_calls ⟨8, b.1, b0.1, 0, 0, f.1, f.2.1, 0, 0, ⟨#[]⟩, 0, false, r.1⟩ A cp w101c HCC.out HOK.out.ws).mono fun rr w' (h : rr = .returned (.bool (rightE ⟨8, b.1, b0.1, 0, 0, f.1, f.2.1, 0, 0, ⟨#[]⟩, 0, false, r.1⟩)) ∧ Below w101c.heap.size w101c w') => (⟨by rw [h.1, hri], h.2⟩ : rr = .returned (.bool true) ∧ Below w101c.heap.size w101c w'))
        have HRV := Lib.hid hri
        clear hri
        go_wp2_with (first | ((with_reducible refine gate_dst (N := 123) rfl ?_); refine wpList_load_row rfl 30 (.tmp 5) rfl b3 rfl 30 _ (0, 0) _ HS101.out.q Try.underlying30 rfl (by kernel_rfl) ?_) | ((with_reducible refine gate_dst (N := 123) rfl ?_); refine gate_guard (by rfl) ?_; refine wpList_load_row rfl 30 (.tmp 5) rfl b3 rfl 30 _ (0, 0) _ HS101.out.q Try.underlying30 rfl (by kernel_rfl) ?_))
        refine HRI.out.mono ?_
        rintro e wz ⟨rfl, hBr⟩
        have HSr := Lib.hid (HS101.out.below hBr)
        have HRr := Lib.hid (Kd.R_below HR101.out hBr)
        clear hBr
        go_wp2_with (first | ((with_reducible refine gate_dst (N := 128) rfl ?_); refine wpList_load_row rfl 30 (.tmp 5) rfl b3 rfl 30 _ (0, 0) _ HSr.out.q Try.underlying30 rfl (by kernel_rfl) ?_) | ((with_reducible refine gate_store (t := 30) (p := 2) (v := .tmp 128) rfl ?_); refine store_ev2 (P := Try.prog) rfl 30 (.tmp 2) (.tmp 128) rfl rfl w.heap.size 0 (.agg #[(.int .i64 8), (.int .u32 b.1), (.int .u32 b0.1), (.int .u64 0), (.int .u32 0), (.int .u64 f.1), (.int .u32 f.2.1), (.int .u64 0), (.int .u32 0), (.string ⟨#[]⟩), (.int .u8 0), (.bool false), (.slice A r.1.length cp)]) #[(.int .i64 8), (.int .u32 b.1), (.int .u32 b0.1), (.int .u64 0), (.int .u32 0), (.int .u64 f.1), (.int .u32 f.2.1), (.int .u64 0), (.int .u32 0), (.string ⟨#[]⟩), (.int .u8 0), (.bool false), (.slice A r.1.length cp)] rfl rfl rfl 30 _ #[(.int .i64 8), (.int .u32 b.1), (.int .u32 b0.1), (.int .u64 0), (.int .u32 0), (.int .u64 f.1), (.int .u32 f.2.1), (.int .u64 0), (.int .u32 0), (.string ⟨#[]⟩), (.int .u8 0), (.bool false), (.slice A r.1.length cp)] HSr.out.z (by kernel_rfl) (by show 0 + 13 ≤ 13; decide) (by kernel_rfl) (by kernel_rfl) ?_; intro w19 hq hk hb; have HZ9 := Lib.hid hq; have HB9 := Lib.hid (hb _ _ HA.out.a HSr.out.b); have HRz := Lib.hid (R_thru2 HRr.out HSr.out.z (by decide) hk); clear hq hk hb))
        refine bodyPost_ret (results_ct rfl _ _ w.heap.size 30 _ (0, 0) _ rfl HZ9.out Try.underlying30 rfl (by kernel_rfl)) rfl ?_
        exact ⟨A, cp, by rw [HR2.out]; rfl, by rw [HR2.out]; exact (Kd.R_reads' HRz.out).2.2, by rw [HR2.out]; exact (Kd.R_reads' HRz.out).2.1, HB9.out⟩
    · have HR2 : Hid (readE s = (zE, 2)) := Lib.hid (by rw [HRD.out, if_neg he])
      have heb : (en == 0) = false := by simpa using he
      have heb2 : (en != 0) = true := by simpa using he
      go_wp2_with ((with_reducible refine gate_store (t := 30) (p := 2) (v := .tmp 127) rfl ?_); refine store_ev2 (P := Try.prog) rfl 30 (.tmp 2) (.tmp 127) rfl rfl w.heap.size 0 (.agg #[(.int .i64 0), (.int .u32 0), (.int .u32 0), (.int .u64 0), (.int .u32 0), (.int .u64 0), (.int .u32 0), (.int .u64 0), (.int .u32 0), (.string ⟨#[]⟩), (.int .u8 0), (.bool false), (.slice none 0 0)]) #[(.int .i64 0), (.int .u32 0), (.int .u32 0), (.int .u64 0), (.int .u32 0), (.int .u64 0), (.int .u32 0), (.int .u64 0), (.int .u32 0), (.string ⟨#[]⟩), (.int .u8 0), (.bool false), (.slice none 0 0)] rfl rfl rfl 30 _ #[(.int .i64 0), (.int .u32 0), (.int .u32 0), (.int .u64 0), (.int .u32 0), (.int .u64 0), (.int .u32 0), (.int .u64 0), (.int .u32 0), (.string ⟨#[]⟩), (.int .u8 0), (.bool false), (.slice none 0 0)] HS101.out.z (by kernel_rfl) (by show 0 + 13 ≤ 13; decide) (by kernel_rfl) (by kernel_rfl) ?_; intro w19 hq hk hb; have HZ9 := Lib.hid hq; have HB9 := Lib.hid (hb _ _ HA.out.a HS101.out.b); clear hq hk hb)
      refine bodyPost_ret (results_ct rfl _ _ w.heap.size 30 _ (0, 0) _ rfl HZ9.out Try.underlying30 rfl (by kernel_rfl)) rfl ?_
      exact ⟨none, 0, by rw [HR2.out]; rfl, by rw [HR2.out]; exact Kd.C_nil _ _, by rw [HR2.out]; exact Nat.le_refl _, HB9.out⟩
set_option maxRecDepth 100000 in
set_option maxHeartbeats 16000000 in
theorem dread_9 (s : ByteArray) (hs : s.size ≤ 9223372036854775807) (w : World) (hk : (rdNum s 0 9).1 = 9) : Calls Try.prog 13 #[.string s] w (ReadP s w) := by
  have HX0 := Lib.hid (heap_alloc_new w (.cells #[(.int .i64 0), (.int .u32 0), (.int .u32 0), (.int .u64 0), (.int .u32 0), (.int .u64 0), (.int .u32 0), (.int .u64 0), (.int .u32 0), (.string ⟨#[]⟩), (.int .u8 0), (.bool false), (.slice none 0 0)] 30))
  have HB0 := Lib.hid (below_alloc' (Below.refl _ w) (.cells #[(.int .i64 0), (.int .u32 0), (.int .u32 0), (.int .u64 0), (.int .u32 0), (.int .u64 0), (.int .u32 0), (.int .u64 0), (.int .u32 0), (.string ⟨#[]⟩), (.int .u8 0), (.bool false), (.slice none 0 0)] 30))
  go_enter Try.func13, Try.ntmps13
  go_wp2_with ((with_reducible refine gate_dst (N := 11) rfl ?_); refine box_event ?hg (N := 11) ?hd (cs := #[.string s, .int .i64 0]) (t := 75) ?hr ?_; (case hd => rfl); (case hg => rfl); (case hr => kernel_rfl); intro g hgg w1 hbox hbb; have HX1 := Lib.hid ((hbb.block _ (lt_at2 HX0.out)).trans HX0.out); have HB1 := Lib.hid (HB0.out.trans (hbb.mono HB0.out.size)); have HN2 : Hid (w.heap.size ≠ g) := Lib.hid (by have := lt_at2 HX0.out; omega); have HI1 : Hid (PDr.IsS75 w w1 g s 0) := Lib.hid ⟨hbox, by have := lt_at2 HX0.out; omega⟩; clear hgg hbox hbb HX0 HB0)
  refine (dnumber 9 (by decide) HI1.out HB1.out hs).mono ?_
  rintro e w2 ⟨rfl, hl⟩
  have za := rdNum_facts s 0 9 (by decide)
  obtain ⟨a, ha⟩ : ∃ x, x = rdNum s 0 9 := ⟨_, rfl⟩
  rw [← ha] at hl za hk ⊢
  have EA := Lib.hid ha
  have zaz := za.2.2
  rw [hk]
  have HK0 := Lib.hid hk
  clear ha hk za
  have h2 := blk_keep HX1.out hl.2.2 HN2.out
  have h3 := heap_alloc_new w2 (.cells #[(.int .i64 0), (.int .u32 0), (.int .u32 0), (.int .u64 0), (.int .u32 0), (.int .u64 0), (.int .u32 0), (.int .u64 0), (.int .u32 0), (.string ⟨#[]⟩), (.int .u8 0), (.bool false), (.slice none 0 0)] 30)
  have hg1 := lt_at2 hl.1.1
  have h22 := lt_at2 h2
  have HA : Hid (PUt w g w.heap.size w2.heap.size) := Lib.hid ⟨Nat.le_refl _, by have := hl.2.1.size; omega, HN2.out, by omega, by omega⟩
  have HS1 : Hid (QSu w g w.heap.size w2.heap.size #[(.int .i64 0), (.int .u32 0), (.int .u32 0), (.int .u64 0), (.int .u32 0), (.int .u64 0), (.int .u32 0), (.int .u64 0), (.int .u32 0), (.string ⟨#[]⟩), (.int .u8 0), (.bool false), (.slice none 0 0)] a.2.1 a.2.2 #[(.int .i64 0), (.int .u32 0), (.int .u32 0), (.int .u64 0), (.int .u32 0), (.int .u64 0), (.int .u32 0), (.int .u64 0), (.int .u32 0), (.string ⟨#[]⟩), (.int .u8 0), (.bool false), (.slice none 0 0)] (w2.alloc (.cells #[(.int .i64 0), (.int .u32 0), (.int .u32 0), (.int .u64 0), (.int .u32 0), (.int .u64 0), (.int .u32 0), (.int .u64 0), (.int .u32 0), (.string ⟨#[]⟩), (.int .u8 0), (.bool false), (.slice none 0 0)] 30))) := Lib.hid ⟨hl.1.alloc _, below_alloc' hl.2.1 _, blk_alloc h2 _, h3⟩
  clear hl h2 h3 hg1 h22 HX1 HN2 HI1 HB1
  go_wp2_with ((with_reducible refine gate_store (t := 30) (p := 5) (v := .tmp 15) rfl ?_); refine store_ev2 (P := Try.prog) rfl 30 (.tmp 5) (.tmp 15) rfl rfl w2.heap.size 0 (.agg #[(.int .i64 9), (.int .u32 0), (.int .u32 0), (.int .u64 0), (.int .u32 0), (.int .u64 0), (.int .u32 0), (.int .u64 0), (.int .u32 0), (.string ⟨#[]⟩), (.int .u8 0), (.bool false), (.slice none 0 0)]) #[(.int .i64 9), (.int .u32 0), (.int .u32 0), (.int .u64 0), (.int .u32 0), (.int .u64 0), (.int .u32 0), (.int .u64 0), (.int .u32 0), (.string ⟨#[]⟩), (.int .u8 0), (.bool false), (.slice none 0 0)] rfl rfl rfl 30 _ #[(.int .i64 9), (.int .u32 0), (.int .u32 0), (.int .u64 0), (.int .u32 0), (.int .u64 0), (.int .u32 0), (.int .u64 0), (.int .u32 0), (.string ⟨#[]⟩), (.int .u8 0), (.bool false), (.slice none 0 0)] HS1.out.q (by kernel_rfl) (by show 0 + 13 ≤ 13; decide) (by kernel_rfl) (by kernel_rfl) ?_; intro w2s hq hk hb; have HS2 := Lib.hid (HS1.out.store HA.out hq hk hb); have x0 := (blk_cell HS2.out.q 0).trans (show _ = some (.int .i64 9) from rfl); clear hq hk hb)
  clear HS1
  generalize w2.heap.size = b3 at *
  clear x0
  refine (dnumber 4294967295 (by decide) HS2.out.i HS2.out.b (by omega)).mono ?_
  rintro e w3c ⟨rfl, hl⟩
  have zb := rdNum_facts a.2.1 a.2.2 4294967295 (by decide)
  obtain ⟨b, hb⟩ : ∃ x, x = rdNum a.2.1 a.2.2 4294967295 := ⟨_, rfl⟩
  rw [← hb] at hl zb ⊢
  have EB := Lib.hid hb
  clear hb
  have HS3 := Lib.hid (HS2.out.call HA.out hl)
  clear hl HS2 
  have x0 := (blk_cell HS3.out.q 0).trans (show _ = some (.int .i64 9) from rfl)
  have hwb : b.1 % 4294967296 = b.1 := Int.emod_eq_of_lt zb.1 (by omega)
  go_wp2_with ((with_reducible refine gate_store (t := 22) (p := 28) (v := .tmp 26) rfl ?_); refine store_ev2 (P := Try.prog) rfl 22 (.tmp 28) (.tmp 26) rfl rfl b3 1 (.int .u32 b.1) #[(.int .u32 b.1)] rfl rfl rfl 30 _ #[(.int .i64 9), (.int .u32 b.1), (.int .u32 0), (.int .u64 0), (.int .u32 0), (.int .u64 0), (.int .u32 0), (.int .u64 0), (.int .u32 0), (.string ⟨#[]⟩), (.int .u8 0), (.bool false), (.slice none 0 0)] HS3.out.q (by kernel_rfl) (by show 1 + 1 ≤ 13; decide) (by kernel_rfl) (by kernel_rfl) ?_; intro w4s hq hk hb; clear x0; have HS4 := Lib.hid (HS3.out.store HA.out hq hk hb); have x0 := (blk_cell HS4.out.q 0).trans (show _ = some (.int .i64 9) from rfl); clear hq hk hb)
  clear HS3 
  clear x0
  refine (dnumber 4294967295 (by decide) HS4.out.i HS4.out.b (by omega)).mono ?_
  rintro e w5c ⟨rfl, hl⟩
  have zb0 := rdNum_facts b.2.1 b.2.2 4294967295 (by decide)
  obtain ⟨b0, hb0⟩ : ∃ x, x = rdNum b.2.1 b.2.2 4294967295 := ⟨_, rfl⟩
  rw [← hb0] at hl zb0 ⊢
  have EB0 := Lib.hid hb0
  clear hb0
  have HS5 := Lib.hid (HS4.out.call HA.out hl)
  clear hl HS4 
  have x0 := (blk_cell HS5.out.q 0).trans (show _ = some (.int .i64 9) from rfl)
  have hwb0 : b0.1 % 4294967296 = b0.1 := Int.emod_eq_of_lt zb0.1 (by omega)
  go_wp2_with ((with_reducible refine gate_store (t := 22) (p := 33) (v := .tmp 31) rfl ?_); refine store_ev2 (P := Try.prog) rfl 22 (.tmp 33) (.tmp 31) rfl rfl b3 2 (.int .u32 b0.1) #[(.int .u32 b0.1)] rfl rfl rfl 30 _ #[(.int .i64 9), (.int .u32 b.1), (.int .u32 b0.1), (.int .u64 0), (.int .u32 0), (.int .u64 0), (.int .u32 0), (.int .u64 0), (.int .u32 0), (.string ⟨#[]⟩), (.int .u8 0), (.bool false), (.slice none 0 0)] HS5.out.q (by kernel_rfl) (by show 2 + 1 ≤ 13; decide) (by kernel_rfl) (by kernel_rfl) ?_; intro w6s hq hk hb; clear x0; have HS6 := Lib.hid (HS5.out.store HA.out hq hk hb); have x0 := (blk_cell HS6.out.q 0).trans (show _ = some (.int .i64 9) from rfl); clear hq hk hb)
  clear HS5 
  clear x0
  refine (dstamp HS6.out.i HS6.out.b (by omega)).mono ?_
  rintro e w7c ⟨rfl, hl⟩
  have zc := stamp_sz b0.2.1 b0.2.2
  obtain ⟨c, hc⟩ : ∃ x, x = rdStamp b0.2.1 b0.2.2 := ⟨_, rfl⟩
  rw [← hc] at hl zc ⊢
  have EC := Lib.hid hc
  clear hc
  have HS7 := Lib.hid (HS6.out.call HA.out hl)
  clear hl HS6 
  have x0 := (blk_cell HS7.out.q 0).trans (show _ = some (.int .i64 9) from rfl)
  go_wp2_with ((with_reducible refine gate_store (t := 27) (p := 54) (v := .tmp 53) rfl ?_); refine store_ev2 (P := Try.prog) rfl 27 (.tmp 54) (.tmp 53) rfl rfl b3 3 (.agg #[.int .u64 c.1, .int .u32 c.2.1]) #[(.int .u64 c.1), (.int .u32 c.2.1)] rfl rfl rfl 30 _ #[(.int .i64 9), (.int .u32 b.1), (.int .u32 b0.1), (.int .u64 c.1), (.int .u32 c.2.1), (.int .u64 0), (.int .u32 0), (.int .u64 0), (.int .u32 0), (.string ⟨#[]⟩), (.int .u8 0), (.bool false), (.slice none 0 0)] HS7.out.q (by kernel_rfl) (by show 3 + 2 ≤ 13; decide) (by kernel_rfl) (by kernel_rfl) ?_; intro w8s hq hk hb; clear x0; have HS8 := Lib.hid (HS7.out.store HA.out hq hk hb); have x0 := (blk_cell HS8.out.q 0).trans (show _ = some (.int .i64 9) from rfl); clear hq hk hb)
  clear HS7 
  clear x0
  refine (dstamp HS8.out.i HS8.out.b (by omega)).mono ?_
  rintro e w9c ⟨rfl, hl⟩
  have zf := stamp_sz c.2.2.1 c.2.2.2
  obtain ⟨f, hf⟩ : ∃ x, x = rdStamp c.2.2.1 c.2.2.2 := ⟨_, rfl⟩
  rw [← hf] at hl zf ⊢
  have EF := Lib.hid hf
  clear hf
  have HS9 := Lib.hid (HS8.out.call HA.out hl)
  clear hl HS8 
  have x0 := (blk_cell HS9.out.q 0).trans (show _ = some (.int .i64 9) from rfl)
  go_wp2_with ((with_reducible refine gate_store (t := 27) (p := 75) (v := .tmp 74) rfl ?_); refine store_ev2 (P := Try.prog) rfl 27 (.tmp 75) (.tmp 74) rfl rfl b3 5 (.agg #[.int .u64 f.1, .int .u32 f.2.1]) #[(.int .u64 f.1), (.int .u32 f.2.1)] rfl rfl rfl 30 _ #[(.int .i64 9), (.int .u32 b.1), (.int .u32 b0.1), (.int .u64 c.1), (.int .u32 c.2.1), (.int .u64 f.1), (.int .u32 f.2.1), (.int .u64 0), (.int .u32 0), (.string ⟨#[]⟩), (.int .u8 0), (.bool false), (.slice none 0 0)] HS9.out.q (by kernel_rfl) (by show 5 + 2 ≤ 13; decide) (by kernel_rfl) (by kernel_rfl) ?_; intro w10s hq hk hb; clear x0; have HS10 := Lib.hid (HS9.out.store HA.out hq hk hb); have x0 := (blk_cell HS10.out.q 0).trans (show _ = some (.int .i64 9) from rfl); clear hq hk hb)
  clear HS9 
  go_loop [7] (fun i => i = .int .i64 0) (fun _ => 1)
  case atStart => rfl
  case round =>
  subst hrel
  go_wp2_with fail
  clear x0
  refine (dnumber 255 (by decide) HS10.out.i HS10.out.b (by omega)).mono ?_
  rintro e w11c ⟨rfl, hl⟩
  have zm := rdNum_facts f.2.2.1 f.2.2.2 255 (by decide)
  obtain ⟨m, hm⟩ : ∃ x, x = rdNum f.2.2.1 f.2.2.2 255 := ⟨_, rfl⟩
  rw [← hm] at hl zm ⊢
  have EM := Lib.hid hm
  clear hm
  have HS11 := Lib.hid (HS10.out.call HA.out hl)
  clear hl HS10 
  have x0 := (blk_cell HS11.out.q 0).trans (show _ = some (.int .i64 9) from rfl)
  have hwm : m.1 % 256 = m.1 := Int.emod_eq_of_lt zm.1 (by omega)
  go_wp2_with ((with_reducible refine gate_store (t := 5) (p := 112) (v := .tmp 111) rfl ?_); refine store_ev2 (P := Try.prog) rfl 5 (.tmp 112) (.tmp 111) rfl rfl b3 10 (.int .u8 m.1) #[(.int .u8 m.1)] rfl rfl rfl 30 _ #[(.int .i64 9), (.int .u32 b.1), (.int .u32 b0.1), (.int .u64 c.1), (.int .u32 c.2.1), (.int .u64 f.1), (.int .u32 f.2.1), (.int .u64 0), (.int .u32 0), (.string ⟨#[]⟩), (.int .u8 m.1), (.bool false), (.slice none 0 0)] HS11.out.q (by kernel_rfl) (by show 10 + 1 ≤ 13; decide) (by kernel_rfl) (by kernel_rfl) ?_; intro w12s hq hk hb; clear x0; have HS12 := Lib.hid (HS11.out.store HA.out hq hk hb); have x0 := (blk_cell HS12.out.q 0).trans (show _ = some (.int .i64 9) from rfl); clear hq hk hb)
  clear HS11 
  clear x0
  refine (dflag HS12.out.i HS12.out.b).mono ?_
  rintro e w13c ⟨rfl, hl⟩
  have zq := flag_sz m.2.1 m.2.2
  obtain ⟨q, hq⟩ : ∃ x, x = rdFlag m.2.1 m.2.2 := ⟨_, rfl⟩
  rw [← hq] at hl zq ⊢
  have EQ := Lib.hid hq
  clear hq
  have HS13 := Lib.hid (HS12.out.call HA.out hl)
  clear hl HS12 
  have x0 := (blk_cell HS13.out.q 0).trans (show _ = some (.int .i64 9) from rfl)
  go_wp2_with ((with_reducible refine gate_store (t := 4) (p := 118) (v := .tmp 117) rfl ?_); refine store_ev2 (P := Try.prog) rfl 4 (.tmp 118) (.tmp 117) rfl rfl b3 11 (.bool q.1) #[(.bool q.1)] rfl rfl rfl 30 _ #[(.int .i64 9), (.int .u32 b.1), (.int .u32 b0.1), (.int .u64 c.1), (.int .u32 c.2.1), (.int .u64 f.1), (.int .u32 f.2.1), (.int .u64 0), (.int .u32 0), (.string ⟨#[]⟩), (.int .u8 m.1), (.bool q.1), (.slice none 0 0)] HS13.out.q (by kernel_rfl) (by show 11 + 1 ≤ 13; decide) (by kernel_rfl) (by kernel_rfl) ?_; intro w14s hq hk hb; clear x0; have HS14 := Lib.hid (HS13.out.store HA.out hq hk hb); have x0 := (blk_cell HS14.out.q 0).trans (show _ = some (.int .i64 9) from rfl); clear hq hk hb)
  clear HS13 
  clear x0
  refine (dend HS14.out.i HS14.out.b).mono ?_
  rintro e w15c ⟨rfl, hl⟩
  have HS15 := Lib.hid (HS14.out.call HA.out hl)
  clear hl HS14 
  obtain ⟨en, hen⟩ : ∃ en, en = rdEnd q.2.1 q.2.2 := ⟨_, rfl⟩
  rw [← hen]
  have HEN := Lib.hid hen
  clear hen
  have HRD : Hid (readE s = if en = 0 then (if rightE ⟨9, b.1, b0.1, c.1, c.2.1, f.1, f.2.1, 0, 0, ⟨#[]⟩, m.1, q.1, []⟩ = true then (⟨9, b.1, b0.1, c.1, c.2.1, f.1, f.2.1, 0, 0, ⟨#[]⟩, m.1, q.1, []⟩, 0) else (zE, 2)) else (zE, 2)) := Lib.hid (by
    have hp : rdE s = (⟨9, b.1, b0.1, c.1, c.2.1, f.1, f.2.1, 0, 0, ⟨#[]⟩, m.1, q.1, []⟩, q.2.1, q.2.2) := by
      unfold rdE rdTail orX rdX
      rw [← EA.out, HK0.out]
      simp [hB, hS, hM, hA, hW, hT, hD, lstR, ← EB.out, ← EB0.out, ← EC.out, ← EF.out, ← EM.out, ← EQ.out]
    unfold readE
    rw [hp, ← HEN.out])
  have HOK : Hid (EOk ⟨9, b.1, b0.1, c.1, c.2.1, f.1, f.2.1, 0, 0, ⟨#[]⟩, m.1, q.1, []⟩) := Lib.hid (by
    have hp : (rdTail 9 a.2.1 a.2.2).1 = ⟨9, b.1, b0.1, c.1, c.2.1, f.1, f.2.1, 0, 0, ⟨#[]⟩, m.1, q.1, []⟩ := by
      unfold rdTail orX rdX
      simp [hB, hS, hM, hA, hW, hT, hD, lstR, ← EB.out, ← EB0.out, ← EC.out, ← EF.out, ← EM.out, ← EQ.out]
    rw [← hp]
    exact tailOk _ (by decide) _ _)
  rcases (show en = 0 ∨ en ≠ 0 from by omega) with he | he
  · subst he
    have HCC : Hid (EnIn w15c ⟨9, b.1, b0.1, c.1, c.2.1, f.1, f.2.1, 0, 0, ⟨#[]⟩, m.1, q.1, []⟩ none 0) := Lib.hid ⟨Kd.C_nil _ _, Nat.le_refl _⟩
    cases hri : rightE ⟨9, b.1, b0.1, c.1, c.2.1, f.1, f.2.1, 0, 0, ⟨#[]⟩, m.1, q.1, []⟩ with
    | false =>
      have HR2 : Hid (readE s = (zE, 2)) := Lib.hid (by rw [HRD.out, if_pos rfl, if_neg (by rw [hri]; decide)])
      have HRI := Lib.hid ((rright_calls ⟨9, b.1, b0.1, c.1, c.2.1, f.1, f.2.1, 0, 0, ⟨#[]⟩, m.1, q.1, []⟩ none 0 w15c HCC.out HOK.out.ws).mono fun rr w' (h : rr = .returned (.bool (rightE ⟨9, b.1, b0.1, c.1, c.2.1, f.1, f.2.1, 0, 0, ⟨#[]⟩, m.1, q.1, []⟩)) ∧ Below w15c.heap.size w15c w') => (⟨by rw [h.1, hri], h.2⟩ : rr = .returned (.bool false) ∧ Below w15c.heap.size w15c w'))
      have HRV := Lib.hid hri
      clear hri
      go_wp2_with (first | ((with_reducible refine gate_dst (N := 123) rfl ?_); refine wpList_load_row rfl 30 (.tmp 5) rfl b3 rfl 30 _ (0, 0) _ HS15.out.q Try.underlying30 rfl (by kernel_rfl) ?_) | ((with_reducible refine gate_dst (N := 123) rfl ?_); refine gate_guard (by rfl) ?_; refine wpList_load_row rfl 30 (.tmp 5) rfl b3 rfl 30 _ (0, 0) _ HS15.out.q Try.underlying30 rfl (by kernel_rfl) ?_))
      refine HRI.out.mono ?_
      rintro e wz ⟨rfl, hBr⟩
      have HSr := Lib.hid (HS15.out.below hBr)
      clear hBr
      go_wp2_with ((with_reducible refine gate_store (t := 30) (p := 2) (v := .tmp 127) rfl ?_); refine store_ev2 (P := Try.prog) rfl 30 (.tmp 2) (.tmp 127) rfl rfl w.heap.size 0 (.agg #[(.int .i64 0), (.int .u32 0), (.int .u32 0), (.int .u64 0), (.int .u32 0), (.int .u64 0), (.int .u32 0), (.int .u64 0), (.int .u32 0), (.string ⟨#[]⟩), (.int .u8 0), (.bool false), (.slice none 0 0)]) #[(.int .i64 0), (.int .u32 0), (.int .u32 0), (.int .u64 0), (.int .u32 0), (.int .u64 0), (.int .u32 0), (.int .u64 0), (.int .u32 0), (.string ⟨#[]⟩), (.int .u8 0), (.bool false), (.slice none 0 0)] rfl rfl rfl 30 _ #[(.int .i64 0), (.int .u32 0), (.int .u32 0), (.int .u64 0), (.int .u32 0), (.int .u64 0), (.int .u32 0), (.int .u64 0), (.int .u32 0), (.string ⟨#[]⟩), (.int .u8 0), (.bool false), (.slice none 0 0)] HSr.out.z (by kernel_rfl) (by show 0 + 13 ≤ 13; decide) (by kernel_rfl) (by kernel_rfl) ?_; intro w19 hq hk hb; have HZ9 := Lib.hid hq; have HB9 := Lib.hid (hb _ _ HA.out.a HSr.out.b); clear hq hk hb)
      refine bodyPost_ret (results_ct rfl _ _ w.heap.size 30 _ (0, 0) _ rfl HZ9.out Try.underlying30 rfl (by kernel_rfl)) rfl ?_
      exact ⟨none, 0, by rw [HR2.out]; rfl, by rw [HR2.out]; exact Kd.C_nil _ _, by rw [HR2.out]; exact Nat.le_refl _, HB9.out⟩
    | true =>
      have HR2 : Hid (readE s = (⟨9, b.1, b0.1, c.1, c.2.1, f.1, f.2.1, 0, 0, ⟨#[]⟩, m.1, q.1, []⟩, 0)) := Lib.hid (by rw [HRD.out, if_pos rfl, if_pos hri])
      have HRI := Lib.hid ((rright_calls ⟨9, b.1, b0.1, c.1, c.2.1, f.1, f.2.1, 0, 0, ⟨#[]⟩, m.1, q.1, []⟩ none 0 w15c HCC.out HOK.out.ws).mono fun rr w' (h : rr = .returned (.bool (rightE ⟨9, b.1, b0.1, c.1, c.2.1, f.1, f.2.1, 0, 0, ⟨#[]⟩, m.1, q.1, []⟩)) ∧ Below w15c.heap.size w15c w') => (⟨by rw [h.1, hri], h.2⟩ : rr = .returned (.bool true) ∧ Below w15c.heap.size w15c w'))
      have HRV := Lib.hid hri
      clear hri
      go_wp2_with (first | ((with_reducible refine gate_dst (N := 123) rfl ?_); refine wpList_load_row rfl 30 (.tmp 5) rfl b3 rfl 30 _ (0, 0) _ HS15.out.q Try.underlying30 rfl (by kernel_rfl) ?_) | ((with_reducible refine gate_dst (N := 123) rfl ?_); refine gate_guard (by rfl) ?_; refine wpList_load_row rfl 30 (.tmp 5) rfl b3 rfl 30 _ (0, 0) _ HS15.out.q Try.underlying30 rfl (by kernel_rfl) ?_))
      refine HRI.out.mono ?_
      rintro e wz ⟨rfl, hBr⟩
      have HSr := Lib.hid (HS15.out.below hBr)
      clear hBr
      go_wp2_with (first | ((with_reducible refine gate_dst (N := 128) rfl ?_); refine wpList_load_row rfl 30 (.tmp 5) rfl b3 rfl 30 _ (0, 0) _ HSr.out.q Try.underlying30 rfl (by kernel_rfl) ?_) | ((with_reducible refine gate_store (t := 30) (p := 2) (v := .tmp 128) rfl ?_); refine store_ev2 (P := Try.prog) rfl 30 (.tmp 2) (.tmp 128) rfl rfl w.heap.size 0 (.agg #[(.int .i64 9), (.int .u32 b.1), (.int .u32 b0.1), (.int .u64 c.1), (.int .u32 c.2.1), (.int .u64 f.1), (.int .u32 f.2.1), (.int .u64 0), (.int .u32 0), (.string ⟨#[]⟩), (.int .u8 m.1), (.bool q.1), (.slice none 0 0)]) #[(.int .i64 9), (.int .u32 b.1), (.int .u32 b0.1), (.int .u64 c.1), (.int .u32 c.2.1), (.int .u64 f.1), (.int .u32 f.2.1), (.int .u64 0), (.int .u32 0), (.string ⟨#[]⟩), (.int .u8 m.1), (.bool q.1), (.slice none 0 0)] rfl rfl rfl 30 _ #[(.int .i64 9), (.int .u32 b.1), (.int .u32 b0.1), (.int .u64 c.1), (.int .u32 c.2.1), (.int .u64 f.1), (.int .u32 f.2.1), (.int .u64 0), (.int .u32 0), (.string ⟨#[]⟩), (.int .u8 m.1), (.bool q.1), (.slice none 0 0)] HSr.out.z (by kernel_rfl) (by show 0 + 13 ≤ 13; decide) (by kernel_rfl) (by kernel_rfl) ?_; intro w19 hq hk hb; have HZ9 := Lib.hid hq; have HB9 := Lib.hid (hb _ _ HA.out.a HSr.out.b); clear hq hk hb))
      refine bodyPost_ret (results_ct rfl _ _ w.heap.size 30 _ (0, 0) _ rfl HZ9.out Try.underlying30 rfl (by kernel_rfl)) rfl ?_
      exact ⟨none, 0, by rw [HR2.out]; rfl, by rw [HR2.out]; exact Kd.C_nil _ _, by rw [HR2.out]; exact Nat.le_refl _, HB9.out⟩
  · have HR2 : Hid (readE s = (zE, 2)) := Lib.hid (by rw [HRD.out, if_neg he])
    have heb : (en == 0) = false := by simpa using he
    have heb2 : (en != 0) = true := by simpa using he
    go_wp2_with ((with_reducible refine gate_store (t := 30) (p := 2) (v := .tmp 127) rfl ?_); refine store_ev2 (P := Try.prog) rfl 30 (.tmp 2) (.tmp 127) rfl rfl w.heap.size 0 (.agg #[(.int .i64 0), (.int .u32 0), (.int .u32 0), (.int .u64 0), (.int .u32 0), (.int .u64 0), (.int .u32 0), (.int .u64 0), (.int .u32 0), (.string ⟨#[]⟩), (.int .u8 0), (.bool false), (.slice none 0 0)]) #[(.int .i64 0), (.int .u32 0), (.int .u32 0), (.int .u64 0), (.int .u32 0), (.int .u64 0), (.int .u32 0), (.int .u64 0), (.int .u32 0), (.string ⟨#[]⟩), (.int .u8 0), (.bool false), (.slice none 0 0)] rfl rfl rfl 30 _ #[(.int .i64 0), (.int .u32 0), (.int .u32 0), (.int .u64 0), (.int .u32 0), (.int .u64 0), (.int .u32 0), (.int .u64 0), (.int .u32 0), (.string ⟨#[]⟩), (.int .u8 0), (.bool false), (.slice none 0 0)] HS15.out.z (by kernel_rfl) (by show 0 + 13 ≤ 13; decide) (by kernel_rfl) (by kernel_rfl) ?_; intro w19 hq hk hb; have HZ9 := Lib.hid hq; have HB9 := Lib.hid (hb _ _ HA.out.a HS15.out.b); clear hq hk hb)
    refine bodyPost_ret (results_ct rfl _ _ w.heap.size 30 _ (0, 0) _ rfl HZ9.out Try.underlying30 rfl (by kernel_rfl)) rfl ?_
    exact ⟨none, 0, by rw [HR2.out]; rfl, by rw [HR2.out]; exact Kd.C_nil _ _, by rw [HR2.out]; exact Nat.le_refl _, HB9.out⟩
theorem dread_calls (s : ByteArray) (hs : s.size ≤ 9223372036854775807) (w : World) : Calls Try.prog 13 #[.string s] w (ReadP s w) := by
  have h := rdNum_facts s 0 9 (by decide)
  rcases (show (rdNum s 0 9).1 = 0 ∨ (rdNum s 0 9).1 = 1 ∨ (rdNum s 0 9).1 = 2 ∨ (rdNum s 0 9).1 = 3 ∨ (rdNum s 0 9).1 = 4 ∨ (rdNum s 0 9).1 = 5 ∨ (rdNum s 0 9).1 = 6 ∨ (rdNum s 0 9).1 = 7 ∨ (rdNum s 0 9).1 = 8 ∨ (rdNum s 0 9).1 = 9 by omega) with hk | hk | hk | hk | hk | hk | hk | hk | hk | hk
  · exact dread_0 s hs w hk
  · exact dread_1 s hs w hk
  · exact dread_2 s hs w hk
  · exact dread_3 s hs w hk
  · exact dread_4 s hs w hk
  · exact dread_5 s hs w hk
  · exact dread_6 s hs w hk
  · exact dread_7 s hs w hk
  · exact dread_8 s hs w hk
  · exact dread_9 s hs w hk
end Go.Proofs.Ytblabgdkbcphkaa

/- entry.Read reads what stands there. Conditions: those that each theorem names. -/
import Derived.Test.YtblabgdkbcphkaaEi
import Derived.Deep.MidRow
import Derived.Laws.Rows
set_option linter.unusedVariables false
set_option linter.unusedSimpArgs false
set_option linter.constructorNameAsVariable false
namespace Go.Proofs.Ytblabgdkbcphkaa
open Go.RowKit Go.Deep Go.Proofs.YtblabgdkbcphkaaW.PrintWords Go.Proofs.Ytblabgdkbcphkaa.PEs Go.Proofs.Ytblabgdkbcphkaa.PRd
theorem blk_keep {w w1 : World} {i g : Nat} {o : Obj} (h : w.heap[i]? = some o) (hk : KeepBut w w1 g none) (hne : i ≠ g) : w1.heap[i]? = some o := blk_keep2 h hk hne
structure PUt (w : World) (g b2 b3 : Nat) : Prop where
  a : w.heap.size ≤ b2
  b : w.heap.size ≤ b3
  c : b2 ≠ g
  d : b3 ≠ g
  e : b2 ≠ b3
structure PSu (w : World) (g b2 b3 : Nat) (Z : Array Value) (s : ByteArray) (er : Int) (Q : Array Value) (W : World) : Prop where
  i : IsS81 w W g s er
  b : Below w.heap.size w W
  z : W.heap[b2]? = some (.cells Z 30 (0, 0))
  q : W.heap[b3]? = some (.cells Q 30 (0, 0))
section
variable {w W W1 : World} {g b2 b3 : Nat} {Z Q Q1 : Array Value} {s s1 : ByteArray} {er er1 : Int}
theorem PSu.call (h : PSu w g b2 b3 Z s er Q W) (ha : PUt w g b2 b3) (hl : Left_ w W W1 g s1 er1) : PSu w g b2 b3 Z s1 er1 Q W1 := ⟨hl.1, hl.2.1, blk_keep h.z hl.2.2 ha.c, blk_keep h.q hl.2.2 ha.d⟩
theorem PSu.store (h : PSu w g b2 b3 Z s er Q W) (ha : PUt w g b2 b3) (hq : W1.heap[b3]? = some (.cells Q1 30 (0, 0))) (hk : KeepBut W W1 b3 none) (hb : ∀ base w0, base ≤ b3 → Below base w0 W → Below base w0 W1) : PSu w g b2 b3 Z s er Q1 W1 :=
  ⟨⟨blk_keep h.i.1 hk (Ne.symm ha.d), h.i.2⟩, hb _ _ ha.b h.b, blk_keep h.z hk ha.e, hq⟩
theorem PSu.below (h : PSu w g b2 b3 Z s er Q W) (hb : Below W.heap.size W W1) : PSu w g b2 b3 Z s er Q W1 :=
  ⟨h.i.below hb, h.b.trans (hb.mono h.b.size), (hb.block _ (lt_at2 h.z)).trans h.z, (hb.block _ (lt_at2 h.q)).trans h.q⟩
end
/-- An entry as a value. -/
def EnV (e : En) (A : Option Addr) (c : Nat) : Value := .agg #[.int .i64 e.k, .int .u32 e.bc, .int .u32 e.bn, .int .u64 e.sp, .int .u32 e.sl, .int .u64 e.ap, .int .u32 e.al, .int .u64 e.mp, .int .u32 e.ml, .string e.pr, .int .u8 e.parts, .bool e.done, .slice A e.ws.length c]
def ReadP (s : ByteArray) (w : World) (r : Ending) (w' : World) : Prop := ∃ A c, r = .returned (.tuple #[EnV (readE s).1 A c, .int .i64 (readE s).2]) ∧ Kd.C k54 w' A (readE s).1.ws.length (readE s).1.ws ∧ (readE s).1.ws.length ≤ c ∧ Below w.heap.size w w'
set_option maxRecDepth 100000 in
set_option maxHeartbeats 16000000 in
theorem read_0 (s : ByteArray) (hs : s.size ≤ 9223372036854775807) (w : World) (hk : (rdNum s 0 9).1 = 0) : Calls Try.prog 11 #[.string s] w (ReadP s w) := by
  have HX0 := Lib.hid (heap_alloc_new w (.cells #[(.int .i64 0), (.int .u32 0), (.int .u32 0), (.int .u64 0), (.int .u32 0), (.int .u64 0), (.int .u32 0), (.int .u64 0), (.int .u32 0), (.string ⟨#[]⟩), (.int .u8 0), (.bool false), (.slice none 0 0)] 30))
  have HB0 := Lib.hid (below_alloc' (Below.refl _ w) (.cells #[(.int .i64 0), (.int .u32 0), (.int .u32 0), (.int .u64 0), (.int .u32 0), (.int .u64 0), (.int .u32 0), (.int .u64 0), (.int .u32 0), (.string ⟨#[]⟩), (.int .u8 0), (.bool false), (.slice none 0 0)] 30))
  go_enter Try.func11, Try.ntmps11
  go_wp2_with fail
  refine (rnew s HB0.out).mono ?_
  rintro e w1 ⟨g, rfl, hI, hB, hb1, hge⟩
  have HX1 := Lib.hid ((hb1.block _ (lt_at2 HX0.out)).trans HX0.out)
  have HN2 : Hid (w.heap.size ≠ g) := Lib.hid (by have := lt_at2 HX0.out; omega)
  have HI1 := Lib.hid hI
  have HB1 := Lib.hid hB
  clear hI hB hb1 hge HX0 HB0
  go_wp2_with fail
  refine (rnumber w _ g s 0 9 (by decide) (by decide) HI1.out HB1.out).mono ?_
  rintro e w2 ⟨rfl, hl⟩
  have hkk := hk
  have za := rdNum_facts s 0 9 (by decide)
  obtain ⟨a, ha⟩ : ∃ x, x = rdNum s 0 9 := ⟨_, rfl⟩
  rw [← ha] at hl za hk ⊢
  have EA := Lib.hid ha
  have zaz := za.2.2
  rw [hk]
  have HK0 := Lib.hid hk
  clear ha hk hkk za
  have h2 := blk_keep HX1.out hl.2.2 HN2.out
  have h3 := heap_alloc_new w2 (.cells #[(.int .i64 0), (.int .u32 0), (.int .u32 0), (.int .u64 0), (.int .u32 0), (.int .u64 0), (.int .u32 0), (.int .u64 0), (.int .u32 0), (.string ⟨#[]⟩), (.int .u8 0), (.bool false), (.slice none 0 0)] 30)
  have hg1 := lt_at2 hl.1.1
  have h22 := lt_at2 h2
  have HA : Hid (PUt w g w.heap.size w2.heap.size) := Lib.hid ⟨Nat.le_refl _, by have := hl.2.1.size; omega, HN2.out, by omega, by omega⟩
  have HS1 : Hid (PSu w g w.heap.size w2.heap.size #[(.int .i64 0), (.int .u32 0), (.int .u32 0), (.int .u64 0), (.int .u32 0), (.int .u64 0), (.int .u32 0), (.int .u64 0), (.int .u32 0), (.string ⟨#[]⟩), (.int .u8 0), (.bool false), (.slice none 0 0)] a.2.1 a.2.2 #[(.int .i64 0), (.int .u32 0), (.int .u32 0), (.int .u64 0), (.int .u32 0), (.int .u64 0), (.int .u32 0), (.int .u64 0), (.int .u32 0), (.string ⟨#[]⟩), (.int .u8 0), (.bool false), (.slice none 0 0)] (w2.alloc (.cells #[(.int .i64 0), (.int .u32 0), (.int .u32 0), (.int .u64 0), (.int .u32 0), (.int .u64 0), (.int .u32 0), (.int .u64 0), (.int .u32 0), (.string ⟨#[]⟩), (.int .u8 0), (.bool false), (.slice none 0 0)] 30))) := Lib.hid ⟨hl.1.alloc _, below_alloc' hl.2.1 _, blk_alloc h2 _, h3⟩
  clear hl h2 h3 hg1 h22 HX1 HN2 HI1 HB1
  go_wp2_with ((with_reducible refine gate_store (t := 30) (p := 5) (v := .tmp 12) rfl ?_); refine store_ev2 (P := Try.prog) rfl 30 (.tmp 5) (.tmp 12) rfl rfl w2.heap.size 0 (.agg #[(.int .i64 0), (.int .u32 0), (.int .u32 0), (.int .u64 0), (.int .u32 0), (.int .u64 0), (.int .u32 0), (.int .u64 0), (.int .u32 0), (.string ⟨#[]⟩), (.int .u8 0), (.bool false), (.slice none 0 0)]) #[(.int .i64 0), (.int .u32 0), (.int .u32 0), (.int .u64 0), (.int .u32 0), (.int .u64 0), (.int .u32 0), (.int .u64 0), (.int .u32 0), (.string ⟨#[]⟩), (.int .u8 0), (.bool false), (.slice none 0 0)] rfl rfl rfl 30 _ #[(.int .i64 0), (.int .u32 0), (.int .u32 0), (.int .u64 0), (.int .u32 0), (.int .u64 0), (.int .u32 0), (.int .u64 0), (.int .u32 0), (.string ⟨#[]⟩), (.int .u8 0), (.bool false), (.slice none 0 0)] HS1.out.q (by kernel_rfl) (by show 0 + 13 ≤ 13; decide) (by kernel_rfl) (by kernel_rfl) ?_; intro w2s hq hk hb; have HS2 := Lib.hid (HS1.out.store HA.out hq hk hb); have x0 := (blk_cell HS2.out.q 0).trans (show _ = some (.int .i64 0) from rfl); clear hq hk hb)
  clear HS1
  generalize w2.heap.size = b3 at *
  refine (fieldsB_calls 0 0 (by rfl) _).mono ?_
  rintro e w3 ⟨rfl, hb⟩
  have HS3 := Lib.hid (HS2.out.below hb)
  clear hb HS2 x0
  have b1 : bits .and .i64 0 1 = 0 := by kernel_rfl
  have b2 : bits .and .i64 0 2 = 0 := by kernel_rfl
  have b4 : bits .and .i64 0 4 = 0 := by kernel_rfl
  have b8 : bits .and .i64 0 8 = 0 := by kernel_rfl
  have b16 : bits .and .i64 0 16 = 0 := by kernel_rfl
  have b32 : bits .and .i64 0 32 = 0 := by kernel_rfl
  have b64 : bits .and .i64 0 64 = 0 := by kernel_rfl
  have b128 : bits .and .i64 0 128 = 0 := by kernel_rfl
  have b256 : bits .and .i64 0 256 = 0 := by kernel_rfl
  go_wp2_with fail
  refine (rend HS3.out.i HS3.out.b).mono ?_
  rintro e w4c ⟨rfl, hl⟩
  have HS4 := Lib.hid (HS3.out.call HA.out hl)
  clear hl HS3 
  obtain ⟨en, hen⟩ : ∃ en, en = rdEnd a.2.1 a.2.2 := ⟨_, rfl⟩
  rw [← hen]
  have HEN := Lib.hid hen
  clear hen
  have HRD : Hid (readE s = (zE, 2)) := Lib.hid (by
    have h0 : rightE (rdE s).1 = false := by
      have : (rdE s).1.k = 0 := by show (rdNum s 0 9).1 = 0; rw [← EA.out, HK0.out]
      unfold rightE
      rw [this]
      rfl
    unfold readE
    rw [h0]
    split <;> rfl)
  have HRF : Hid (rightE ⟨0, 0, 0, 0, 0, 0, 0, 0, 0, ⟨#[]⟩, 0, false, []⟩ = false) := Lib.hid (by unfold rightE; rfl)
  rcases (show en = 0 ∨ en ≠ 0 from by omega) with he | he
  · subst he
    have HRI := Lib.hid ((right_calls ⟨0, 0, 0, 0, 0, 0, 0, 0, 0, ⟨#[]⟩, 0, false, []⟩ none 0 w4c (Kd.C_nil _ _) (by decide)).mono fun r w' (h : r = .returned (.bool (rightE ⟨0, 0, 0, 0, 0, 0, 0, 0, 0, ⟨#[]⟩, 0, false, []⟩)) ∧ Below w4c.heap.size w4c w') => (⟨by rw [h.1, HRF.out], h.2⟩ : r = .returned (.bool false) ∧ Below w4c.heap.size w4c w'))
    go_wp2_with (first | ((with_reducible refine gate_dst (N := 86) rfl ?_); refine wpList_load_row rfl 30 (.tmp 5) rfl b3 rfl 30 _ (0, 0) _ HS4.out.q Try.underlying30 rfl (by kernel_rfl) ?_) | ((with_reducible refine gate_dst (N := 86) rfl ?_); refine gate_guard (by rfl) ?_; refine wpList_load_row rfl 30 (.tmp 5) rfl b3 rfl 30 _ (0, 0) _ HS4.out.q Try.underlying30 rfl (by kernel_rfl) ?_))
    refine HRI.out.mono ?_
    rintro e wr ⟨rfl, hBr⟩
    have HSr := Lib.hid (HS4.out.below hBr)
    clear hBr
    have HR2 : Hid (readE s = (zE, 2)) := HRD
    go_wp2_with ((with_reducible refine gate_store (t := 30) (p := 2) (v := .tmp 90) rfl ?_); refine store_ev2 (P := Try.prog) rfl 30 (.tmp 2) (.tmp 90) rfl rfl w.heap.size 0 (.agg #[(.int .i64 0), (.int .u32 0), (.int .u32 0), (.int .u64 0), (.int .u32 0), (.int .u64 0), (.int .u32 0), (.int .u64 0), (.int .u32 0), (.string ⟨#[]⟩), (.int .u8 0), (.bool false), (.slice none 0 0)]) #[(.int .i64 0), (.int .u32 0), (.int .u32 0), (.int .u64 0), (.int .u32 0), (.int .u64 0), (.int .u32 0), (.int .u64 0), (.int .u32 0), (.string ⟨#[]⟩), (.int .u8 0), (.bool false), (.slice none 0 0)] rfl rfl rfl 30 _ #[(.int .i64 0), (.int .u32 0), (.int .u32 0), (.int .u64 0), (.int .u32 0), (.int .u64 0), (.int .u32 0), (.int .u64 0), (.int .u32 0), (.string ⟨#[]⟩), (.int .u8 0), (.bool false), (.slice none 0 0)] HSr.out.z (by kernel_rfl) (by show 0 + 13 ≤ 13; decide) (by kernel_rfl) (by kernel_rfl) ?_; intro w19 hq hk hb; have HZ9 := Lib.hid hq; have HB9 := Lib.hid (hb _ _ HA.out.a HSr.out.b); clear hq hk hb)
    refine bodyPost_ret (results_ct rfl _ _ w.heap.size 30 _ (0, 0) _ rfl HZ9.out Try.underlying30 rfl (by kernel_rfl)) rfl ?_
    exact ⟨none, 0, by rw [HR2.out]; rfl, by rw [HR2.out]; exact Kd.C_nil _ _, by rw [HR2.out]; exact Nat.le_refl _, HB9.out⟩
  · have HR2 : Hid (readE s = (zE, 2)) := HRD
    have heb : (en == 0) = false := by simpa using he
    have heb2 : (en != 0) = true := by simpa using he
    go_wp2_with ((with_reducible refine gate_store (t := 30) (p := 2) (v := .tmp 90) rfl ?_); refine store_ev2 (P := Try.prog) rfl 30 (.tmp 2) (.tmp 90) rfl rfl w.heap.size 0 (.agg #[(.int .i64 0), (.int .u32 0), (.int .u32 0), (.int .u64 0), (.int .u32 0), (.int .u64 0), (.int .u32 0), (.int .u64 0), (.int .u32 0), (.string ⟨#[]⟩), (.int .u8 0), (.bool false), (.slice none 0 0)]) #[(.int .i64 0), (.int .u32 0), (.int .u32 0), (.int .u64 0), (.int .u32 0), (.int .u64 0), (.int .u32 0), (.int .u64 0), (.int .u32 0), (.string ⟨#[]⟩), (.int .u8 0), (.bool false), (.slice none 0 0)] rfl rfl rfl 30 _ #[(.int .i64 0), (.int .u32 0), (.int .u32 0), (.int .u64 0), (.int .u32 0), (.int .u64 0), (.int .u32 0), (.int .u64 0), (.int .u32 0), (.string ⟨#[]⟩), (.int .u8 0), (.bool false), (.slice none 0 0)] HS4.out.z (by kernel_rfl) (by show 0 + 13 ≤ 13; decide) (by kernel_rfl) (by kernel_rfl) ?_; intro w19 hq hk hb; have HZ9 := Lib.hid hq; have HB9 := Lib.hid (hb _ _ HA.out.a HS4.out.b); clear hq hk hb)
    refine bodyPost_ret (results_ct rfl _ _ w.heap.size 30 _ (0, 0) _ rfl HZ9.out Try.underlying30 rfl (by kernel_rfl)) rfl ?_
    exact ⟨none, 0, by rw [HR2.out]; rfl, by rw [HR2.out]; exact Kd.C_nil _ _, by rw [HR2.out]; exact Nat.le_refl _, HB9.out⟩
set_option maxRecDepth 100000 in
set_option maxHeartbeats 16000000 in
theorem read_1 (s : ByteArray) (hs : s.size ≤ 9223372036854775807) (w : World) (hk : (rdNum s 0 9).1 = 1) : Calls Try.prog 11 #[.string s] w (ReadP s w) := by
  have HX0 := Lib.hid (heap_alloc_new w (.cells #[(.int .i64 0), (.int .u32 0), (.int .u32 0), (.int .u64 0), (.int .u32 0), (.int .u64 0), (.int .u32 0), (.int .u64 0), (.int .u32 0), (.string ⟨#[]⟩), (.int .u8 0), (.bool false), (.slice none 0 0)] 30))
  have HB0 := Lib.hid (below_alloc' (Below.refl _ w) (.cells #[(.int .i64 0), (.int .u32 0), (.int .u32 0), (.int .u64 0), (.int .u32 0), (.int .u64 0), (.int .u32 0), (.int .u64 0), (.int .u32 0), (.string ⟨#[]⟩), (.int .u8 0), (.bool false), (.slice none 0 0)] 30))
  go_enter Try.func11, Try.ntmps11
  go_wp2_with fail
  refine (rnew s HB0.out).mono ?_
  rintro e w1 ⟨g, rfl, hI, hB, hb1, hge⟩
  have HX1 := Lib.hid ((hb1.block _ (lt_at2 HX0.out)).trans HX0.out)
  have HN2 : Hid (w.heap.size ≠ g) := Lib.hid (by have := lt_at2 HX0.out; omega)
  have HI1 := Lib.hid hI
  have HB1 := Lib.hid hB
  clear hI hB hb1 hge HX0 HB0
  go_wp2_with fail
  refine (rnumber w _ g s 0 9 (by decide) (by decide) HI1.out HB1.out).mono ?_
  rintro e w2 ⟨rfl, hl⟩
  have hkk := hk
  have za := rdNum_facts s 0 9 (by decide)
  obtain ⟨a, ha⟩ : ∃ x, x = rdNum s 0 9 := ⟨_, rfl⟩
  rw [← ha] at hl za hk ⊢
  have EA := Lib.hid ha
  have zaz := za.2.2
  rw [hk]
  have HK0 := Lib.hid hk
  clear ha hk hkk za
  have h2 := blk_keep HX1.out hl.2.2 HN2.out
  have h3 := heap_alloc_new w2 (.cells #[(.int .i64 0), (.int .u32 0), (.int .u32 0), (.int .u64 0), (.int .u32 0), (.int .u64 0), (.int .u32 0), (.int .u64 0), (.int .u32 0), (.string ⟨#[]⟩), (.int .u8 0), (.bool false), (.slice none 0 0)] 30)
  have hg1 := lt_at2 hl.1.1
  have h22 := lt_at2 h2
  have HA : Hid (PUt w g w.heap.size w2.heap.size) := Lib.hid ⟨Nat.le_refl _, by have := hl.2.1.size; omega, HN2.out, by omega, by omega⟩
  have HS1 : Hid (PSu w g w.heap.size w2.heap.size #[(.int .i64 0), (.int .u32 0), (.int .u32 0), (.int .u64 0), (.int .u32 0), (.int .u64 0), (.int .u32 0), (.int .u64 0), (.int .u32 0), (.string ⟨#[]⟩), (.int .u8 0), (.bool false), (.slice none 0 0)] a.2.1 a.2.2 #[(.int .i64 0), (.int .u32 0), (.int .u32 0), (.int .u64 0), (.int .u32 0), (.int .u64 0), (.int .u32 0), (.int .u64 0), (.int .u32 0), (.string ⟨#[]⟩), (.int .u8 0), (.bool false), (.slice none 0 0)] (w2.alloc (.cells #[(.int .i64 0), (.int .u32 0), (.int .u32 0), (.int .u64 0), (.int .u32 0), (.int .u64 0), (.int .u32 0), (.int .u64 0), (.int .u32 0), (.string ⟨#[]⟩), (.int .u8 0), (.bool false), (.slice none 0 0)] 30))) := Lib.hid ⟨hl.1.alloc _, below_alloc' hl.2.1 _, blk_alloc h2 _, h3⟩
  clear hl h2 h3 hg1 h22 HX1 HN2 HI1 HB1
  go_wp2_with ((with_reducible refine gate_store (t := 30) (p := 5) (v := .tmp 12) rfl ?_); refine store_ev2 (P := Try.prog) rfl 30 (.tmp 5) (.tmp 12) rfl rfl w2.heap.size 0 (.agg #[(.int .i64 1), (.int .u32 0), (.int .u32 0), (.int .u64 0), (.int .u32 0), (.int .u64 0), (.int .u32 0), (.int .u64 0), (.int .u32 0), (.string ⟨#[]⟩), (.int .u8 0), (.bool false), (.slice none 0 0)]) #[(.int .i64 1), (.int .u32 0), (.int .u32 0), (.int .u64 0), (.int .u32 0), (.int .u64 0), (.int .u32 0), (.int .u64 0), (.int .u32 0), (.string ⟨#[]⟩), (.int .u8 0), (.bool false), (.slice none 0 0)] rfl rfl rfl 30 _ #[(.int .i64 1), (.int .u32 0), (.int .u32 0), (.int .u64 0), (.int .u32 0), (.int .u64 0), (.int .u32 0), (.int .u64 0), (.int .u32 0), (.string ⟨#[]⟩), (.int .u8 0), (.bool false), (.slice none 0 0)] HS1.out.q (by kernel_rfl) (by show 0 + 13 ≤ 13; decide) (by kernel_rfl) (by kernel_rfl) ?_; intro w2s hq hk hb; have HS2 := Lib.hid (HS1.out.store HA.out hq hk hb); have x0 := (blk_cell HS2.out.q 0).trans (show _ = some (.int .i64 1) from rfl); clear hq hk hb)
  clear HS1
  generalize w2.heap.size = b3 at *
  refine (fieldsB_calls 1 8 (by rfl) _).mono ?_
  rintro e w3 ⟨rfl, hb⟩
  have HS3 := Lib.hid (HS2.out.below hb)
  clear hb HS2 x0
  have b1 : bits .and .i64 8 1 = 0 := by kernel_rfl
  have b2 : bits .and .i64 8 2 = 0 := by kernel_rfl
  have b4 : bits .and .i64 8 4 = 0 := by kernel_rfl
  have b8 : bits .and .i64 8 8 = 8 := by kernel_rfl
  have b16 : bits .and .i64 8 16 = 0 := by kernel_rfl
  have b32 : bits .and .i64 8 32 = 0 := by kernel_rfl
  have b64 : bits .and .i64 8 64 = 0 := by kernel_rfl
  have b128 : bits .and .i64 8 128 = 0 := by kernel_rfl
  have b256 : bits .and .i64 8 256 = 0 := by kernel_rfl
  go_wp2_with fail
  refine (rstamp HS3.out.i HS3.out.b).mono ?_
  rintro e w4c ⟨rfl, hl⟩
  have zf := stamp_sz a.2.1 a.2.2
  obtain ⟨f, hf⟩ : ∃ x, x = rdStamp a.2.1 a.2.2 := ⟨_, rfl⟩
  rw [← hf] at hl zf ⊢
  have EF := Lib.hid hf
  clear hf
  have HS4 := Lib.hid (HS3.out.call HA.out hl)
  clear hl HS3 
  go_wp2_with ((with_reducible refine gate_store (t := 27) (p := 46) (v := .tmp 45) rfl ?_); refine store_ev2 (P := Try.prog) rfl 27 (.tmp 46) (.tmp 45) rfl rfl b3 5 (.agg #[.int .u64 f.1, .int .u32 f.2.1]) #[(.int .u64 f.1), (.int .u32 f.2.1)] rfl rfl rfl 30 _ #[(.int .i64 1), (.int .u32 0), (.int .u32 0), (.int .u64 0), (.int .u32 0), (.int .u64 f.1), (.int .u32 f.2.1), (.int .u64 0), (.int .u32 0), (.string ⟨#[]⟩), (.int .u8 0), (.bool false), (.slice none 0 0)] HS4.out.q (by kernel_rfl) (by show 5 + 2 ≤ 13; decide) (by kernel_rfl) (by kernel_rfl) ?_; intro w5s hq hk hb; have HS5 := Lib.hid (HS4.out.store HA.out hq hk hb); clear hq hk hb)
  clear HS4 
  refine (rend HS5.out.i HS5.out.b).mono ?_
  rintro e w6c ⟨rfl, hl⟩
  have HS6 := Lib.hid (HS5.out.call HA.out hl)
  clear hl HS5 
  obtain ⟨en, hen⟩ : ∃ en, en = rdEnd f.2.2.1 f.2.2.2 := ⟨_, rfl⟩
  rw [← hen]
  have HEN := Lib.hid hen
  clear hen
  have HRD : Hid (readE s = if en = 0 then (if rightE ⟨1, 0, 0, 0, 0, f.1, f.2.1, 0, 0, ⟨#[]⟩, 0, false, []⟩ = true then (⟨1, 0, 0, 0, 0, f.1, f.2.1, 0, 0, ⟨#[]⟩, 0, false, []⟩, 0) else (zE, 2)) else (zE, 2)) := Lib.hid (by
    have hp : rdE s = (⟨1, 0, 0, 0, 0, f.1, f.2.1, 0, 0, ⟨#[]⟩, 0, false, []⟩, f.2.2.1, f.2.2.2) := by
      unfold rdE rdTail orX rdX
      rw [← EA.out, HK0.out]
      simp [hB, hS, hM, hA, hW, hT, hD, lstR, ← EF.out]
    unfold readE
    rw [hp, ← HEN.out])
  have HOK : Hid (EOk ⟨1, 0, 0, 0, 0, f.1, f.2.1, 0, 0, ⟨#[]⟩, 0, false, []⟩) := Lib.hid (by
    have hp : (rdTail 1 a.2.1 a.2.2).1 = ⟨1, 0, 0, 0, 0, f.1, f.2.1, 0, 0, ⟨#[]⟩, 0, false, []⟩ := by
      unfold rdTail orX rdX
      simp [hB, hS, hM, hA, hW, hT, hD, lstR, ← EF.out]
    rw [← hp]
    exact tailOk _ (by decide) _ _)
  rcases (show en = 0 ∨ en ≠ 0 from by omega) with he | he
  · subst he
    cases hri : rightE ⟨1, 0, 0, 0, 0, f.1, f.2.1, 0, 0, ⟨#[]⟩, 0, false, []⟩ with
    | false =>
      have HR2 : Hid (readE s = (zE, 2)) := Lib.hid (by rw [HRD.out, if_pos rfl, if_neg (by rw [hri]; decide)])
      have HRI := Lib.hid ((right_calls ⟨1, 0, 0, 0, 0, f.1, f.2.1, 0, 0, ⟨#[]⟩, 0, false, []⟩ none 0 w6c (Kd.C_nil _ _) HOK.out.ws).mono fun r w' (h : r = .returned (.bool (rightE ⟨1, 0, 0, 0, 0, f.1, f.2.1, 0, 0, ⟨#[]⟩, 0, false, []⟩)) ∧ Below w6c.heap.size w6c w') => (⟨by rw [h.1, hri], h.2⟩ : r = .returned (.bool false) ∧ Below w6c.heap.size w6c w'))
      have HRV := Lib.hid hri
      clear hri
      go_wp2_with (first | ((with_reducible refine gate_dst (N := 86) rfl ?_); refine wpList_load_row rfl 30 (.tmp 5) rfl b3 rfl 30 _ (0, 0) _ HS6.out.q Try.underlying30 rfl (by kernel_rfl) ?_) | ((with_reducible refine gate_dst (N := 86) rfl ?_); refine gate_guard (by rfl) ?_; refine wpList_load_row rfl 30 (.tmp 5) rfl b3 rfl 30 _ (0, 0) _ HS6.out.q Try.underlying30 rfl (by kernel_rfl) ?_))
      refine HRI.out.mono ?_
      rintro e wr ⟨rfl, hBr⟩
      have HSr := Lib.hid (HS6.out.below hBr)
      clear hBr
      go_wp2_with ((with_reducible refine gate_store (t := 30) (p := 2) (v := .tmp 90) rfl ?_); refine store_ev2 (P := Try.prog) rfl 30 (.tmp 2) (.tmp 90) rfl rfl w.heap.size 0 (.agg #[(.int .i64 0), (.int .u32 0), (.int .u32 0), (.int .u64 0), (.int .u32 0), (.int .u64 0), (.int .u32 0), (.int .u64 0), (.int .u32 0), (.string ⟨#[]⟩), (.int .u8 0), (.bool false), (.slice none 0 0)]) #[(.int .i64 0), (.int .u32 0), (.int .u32 0), (.int .u64 0), (.int .u32 0), (.int .u64 0), (.int .u32 0), (.int .u64 0), (.int .u32 0), (.string ⟨#[]⟩), (.int .u8 0), (.bool false), (.slice none 0 0)] rfl rfl rfl 30 _ #[(.int .i64 0), (.int .u32 0), (.int .u32 0), (.int .u64 0), (.int .u32 0), (.int .u64 0), (.int .u32 0), (.int .u64 0), (.int .u32 0), (.string ⟨#[]⟩), (.int .u8 0), (.bool false), (.slice none 0 0)] HSr.out.z (by kernel_rfl) (by show 0 + 13 ≤ 13; decide) (by kernel_rfl) (by kernel_rfl) ?_; intro w19 hq hk hb; have HZ9 := Lib.hid hq; have HB9 := Lib.hid (hb _ _ HA.out.a HSr.out.b); clear hq hk hb)
      refine bodyPost_ret (results_ct rfl _ _ w.heap.size 30 _ (0, 0) _ rfl HZ9.out Try.underlying30 rfl (by kernel_rfl)) rfl ?_
      exact ⟨none, 0, by rw [HR2.out]; rfl, by rw [HR2.out]; exact Kd.C_nil _ _, by rw [HR2.out]; exact Nat.le_refl _, HB9.out⟩
    | true =>
      have HR2 : Hid (readE s = (⟨1, 0, 0, 0, 0, f.1, f.2.1, 0, 0, ⟨#[]⟩, 0, false, []⟩, 0)) := Lib.hid (by rw [HRD.out, if_pos rfl, if_pos hri])
      have HRI := Lib.hid ((right_calls ⟨1, 0, 0, 0, 0, f.1, f.2.1, 0, 0, ⟨#[]⟩, 0, false, []⟩ none 0 w6c (Kd.C_nil _ _) HOK.out.ws).mono fun r w' (h : r = .returned (.bool (rightE ⟨1, 0, 0, 0, 0, f.1, f.2.1, 0, 0, ⟨#[]⟩, 0, false, []⟩)) ∧ Below w6c.heap.size w6c w') => (⟨by rw [h.1, hri], h.2⟩ : r = .returned (.bool true) ∧ Below w6c.heap.size w6c w'))
      have HRV := Lib.hid hri
      clear hri
      go_wp2_with (first | ((with_reducible refine gate_dst (N := 86) rfl ?_); refine wpList_load_row rfl 30 (.tmp 5) rfl b3 rfl 30 _ (0, 0) _ HS6.out.q Try.underlying30 rfl (by kernel_rfl) ?_) | ((with_reducible refine gate_dst (N := 86) rfl ?_); refine gate_guard (by rfl) ?_; refine wpList_load_row rfl 30 (.tmp 5) rfl b3 rfl 30 _ (0, 0) _ HS6.out.q Try.underlying30 rfl (by kernel_rfl) ?_))
      refine HRI.out.mono ?_
      rintro e wr ⟨rfl, hBr⟩
      have HSr := Lib.hid (HS6.out.below hBr)
      clear hBr
      have x12 := (blk_cell HSr.out.q 12).trans (show _ = some (.slice none 0 0) from rfl)
      go_wp2_with fail
      refine (clip_calls none 0 0 _ (Nat.le_refl _) (by decide) (fun _ => ⟨rfl, rfl⟩)).mono ?_
      rintro e wx ⟨rfl, hwx⟩
      subst hwx
      clear x12
      go_wp2_with (first | ((with_reducible refine gate_store (t := 28) (p := 94) (v := .tmp 93) rfl ?_); refine store_ev2 (P := Try.prog) rfl 28 (.tmp 94) (.tmp 93) rfl rfl b3 12 (.slice none 0 0) #[(.slice none 0 0)] rfl rfl rfl 30 _ #[(.int .i64 1), (.int .u32 0), (.int .u32 0), (.int .u64 0), (.int .u32 0), (.int .u64 f.1), (.int .u32 f.2.1), (.int .u64 0), (.int .u32 0), (.string ⟨#[]⟩), (.int .u8 0), (.bool false), (.slice none 0 0)] HSr.out.q (by kernel_rfl) (by show 12 + 1 ≤ 13; decide) (by kernel_rfl) (by kernel_rfl) ?_; intro wy hq hk hb; have HSx := Lib.hid (HSr.out.store HA.out hq hk hb); clear hq hk hb) | ((with_reducible refine gate_dst (N := 95) rfl ?_); refine wpList_load_row rfl 30 (.tmp 5) rfl b3 rfl 30 _ (0, 0) _ HSx.out.q Try.underlying30 rfl (by kernel_rfl) ?_) | ((with_reducible refine gate_store (t := 30) (p := 2) (v := .tmp 95) rfl ?_); refine store_ev2 (P := Try.prog) rfl 30 (.tmp 2) (.tmp 95) rfl rfl w.heap.size 0 (.agg #[(.int .i64 1), (.int .u32 0), (.int .u32 0), (.int .u64 0), (.int .u32 0), (.int .u64 f.1), (.int .u32 f.2.1), (.int .u64 0), (.int .u32 0), (.string ⟨#[]⟩), (.int .u8 0), (.bool false), (.slice none 0 0)]) #[(.int .i64 1), (.int .u32 0), (.int .u32 0), (.int .u64 0), (.int .u32 0), (.int .u64 f.1), (.int .u32 f.2.1), (.int .u64 0), (.int .u32 0), (.string ⟨#[]⟩), (.int .u8 0), (.bool false), (.slice none 0 0)] rfl rfl rfl 30 _ #[(.int .i64 1), (.int .u32 0), (.int .u32 0), (.int .u64 0), (.int .u32 0), (.int .u64 f.1), (.int .u32 f.2.1), (.int .u64 0), (.int .u32 0), (.string ⟨#[]⟩), (.int .u8 0), (.bool false), (.slice none 0 0)] HSx.out.z (by kernel_rfl) (by show 0 + 13 ≤ 13; decide) (by kernel_rfl) (by kernel_rfl) ?_; intro w19 hq hk hb; have HZ9 := Lib.hid hq; have HB9 := Lib.hid (hb _ _ HA.out.a HSx.out.b); clear hq hk hb))
      refine bodyPost_ret (results_ct rfl _ _ w.heap.size 30 _ (0, 0) _ rfl HZ9.out Try.underlying30 rfl (by kernel_rfl)) rfl ?_
      exact ⟨none, 0, by rw [HR2.out]; rfl, by rw [HR2.out]; exact Kd.C_nil _ _, by rw [HR2.out]; exact Nat.le_refl _, HB9.out⟩
  · have HR2 : Hid (readE s = (zE, 2)) := Lib.hid (by rw [HRD.out, if_neg he])
    have heb : (en == 0) = false := by simpa using he
    have heb2 : (en != 0) = true := by simpa using he
    go_wp2_with ((with_reducible refine gate_store (t := 30) (p := 2) (v := .tmp 90) rfl ?_); refine store_ev2 (P := Try.prog) rfl 30 (.tmp 2) (.tmp 90) rfl rfl w.heap.size 0 (.agg #[(.int .i64 0), (.int .u32 0), (.int .u32 0), (.int .u64 0), (.int .u32 0), (.int .u64 0), (.int .u32 0), (.int .u64 0), (.int .u32 0), (.string ⟨#[]⟩), (.int .u8 0), (.bool false), (.slice none 0 0)]) #[(.int .i64 0), (.int .u32 0), (.int .u32 0), (.int .u64 0), (.int .u32 0), (.int .u64 0), (.int .u32 0), (.int .u64 0), (.int .u32 0), (.string ⟨#[]⟩), (.int .u8 0), (.bool false), (.slice none 0 0)] rfl rfl rfl 30 _ #[(.int .i64 0), (.int .u32 0), (.int .u32 0), (.int .u64 0), (.int .u32 0), (.int .u64 0), (.int .u32 0), (.int .u64 0), (.int .u32 0), (.string ⟨#[]⟩), (.int .u8 0), (.bool false), (.slice none 0 0)] HS6.out.z (by kernel_rfl) (by show 0 + 13 ≤ 13; decide) (by kernel_rfl) (by kernel_rfl) ?_; intro w19 hq hk hb; have HZ9 := Lib.hid hq; have HB9 := Lib.hid (hb _ _ HA.out.a HS6.out.b); clear hq hk hb)
    refine bodyPost_ret (results_ct rfl _ _ w.heap.size 30 _ (0, 0) _ rfl HZ9.out Try.underlying30 rfl (by kernel_rfl)) rfl ?_
    exact ⟨none, 0, by rw [HR2.out]; rfl, by rw [HR2.out]; exact Kd.C_nil _ _, by rw [HR2.out]; exact Nat.le_refl _, HB9.out⟩
set_option maxRecDepth 100000 in
set_option maxHeartbeats 16000000 in
theorem read_2 (s : ByteArray) (hs : s.size ≤ 9223372036854775807) (w : World) (hk : (rdNum s 0 9).1 = 2) : Calls Try.prog 11 #[.string s] w (ReadP s w) := by
  have HX0 := Lib.hid (heap_alloc_new w (.cells #[(.int .i64 0), (.int .u32 0), (.int .u32 0), (.int .u64 0), (.int .u32 0), (.int .u64 0), (.int .u32 0), (.int .u64 0), (.int .u32 0), (.string ⟨#[]⟩), (.int .u8 0), (.bool false), (.slice none 0 0)] 30))
  have HB0 := Lib.hid (below_alloc' (Below.refl _ w) (.cells #[(.int .i64 0), (.int .u32 0), (.int .u32 0), (.int .u64 0), (.int .u32 0), (.int .u64 0), (.int .u32 0), (.int .u64 0), (.int .u32 0), (.string ⟨#[]⟩), (.int .u8 0), (.bool false), (.slice none 0 0)] 30))
  go_enter Try.func11, Try.ntmps11
  go_wp2_with fail
  refine (rnew s HB0.out).mono ?_
  rintro e w1 ⟨g, rfl, hI, hB, hb1, hge⟩
  have HX1 := Lib.hid ((hb1.block _ (lt_at2 HX0.out)).trans HX0.out)
  have HN2 : Hid (w.heap.size ≠ g) := Lib.hid (by have := lt_at2 HX0.out; omega)
  have HI1 := Lib.hid hI
  have HB1 := Lib.hid hB
  clear hI hB hb1 hge HX0 HB0
  go_wp2_with fail
  refine (rnumber w _ g s 0 9 (by decide) (by decide) HI1.out HB1.out).mono ?_
  rintro e w2 ⟨rfl, hl⟩
  have hkk := hk
  have za := rdNum_facts s 0 9 (by decide)
  obtain ⟨a, ha⟩ : ∃ x, x = rdNum s 0 9 := ⟨_, rfl⟩
  rw [← ha] at hl za hk ⊢
  have EA := Lib.hid ha
  have zaz := za.2.2
  rw [hk]
  have HK0 := Lib.hid hk
  clear ha hk hkk za
  have h2 := blk_keep HX1.out hl.2.2 HN2.out
  have h3 := heap_alloc_new w2 (.cells #[(.int .i64 0), (.int .u32 0), (.int .u32 0), (.int .u64 0), (.int .u32 0), (.int .u64 0), (.int .u32 0), (.int .u64 0), (.int .u32 0), (.string ⟨#[]⟩), (.int .u8 0), (.bool false), (.slice none 0 0)] 30)
  have hg1 := lt_at2 hl.1.1
  have h22 := lt_at2 h2
  have HA : Hid (PUt w g w.heap.size w2.heap.size) := Lib.hid ⟨Nat.le_refl _, by have := hl.2.1.size; omega, HN2.out, by omega, by omega⟩
  have HS1 : Hid (PSu w g w.heap.size w2.heap.size #[(.int .i64 0), (.int .u32 0), (.int .u32 0), (.int .u64 0), (.int .u32 0), (.int .u64 0), (.int .u32 0), (.int .u64 0), (.int .u32 0), (.string ⟨#[]⟩), (.int .u8 0), (.bool false), (.slice none 0 0)] a.2.1 a.2.2 #[(.int .i64 0), (.int .u32 0), (.int .u32 0), (.int .u64 0), (.int .u32 0), (.int .u64 0), (.int .u32 0), (.int .u64 0), (.int .u32 0), (.string ⟨#[]⟩), (.int .u8 0), (.bool false), (.slice none 0 0)] (w2.alloc (.cells #[(.int .i64 0), (.int .u32 0), (.int .u32 0), (.int .u64 0), (.int .u32 0), (.int .u64 0), (.int .u32 0), (.int .u64 0), (.int .u32 0), (.string ⟨#[]⟩), (.int .u8 0), (.bool false), (.slice none 0 0)] 30))) := Lib.hid ⟨hl.1.alloc _, below_alloc' hl.2.1 _, blk_alloc h2 _, h3⟩
  clear hl h2 h3 hg1 h22 HX1 HN2 HI1 HB1
  go_wp2_with ((with_reducible refine gate_store (t := 30) (p := 5) (v := .tmp 12) rfl ?_); refine store_ev2 (P := Try.prog) rfl 30 (.tmp 5) (.tmp 12) rfl rfl w2.heap.size 0 (.agg #[(.int .i64 2), (.int .u32 0), (.int .u32 0), (.int .u64 0), (.int .u32 0), (.int .u64 0), (.int .u32 0), (.int .u64 0), (.int .u32 0), (.string ⟨#[]⟩), (.int .u8 0), (.bool false), (.slice none 0 0)]) #[(.int .i64 2), (.int .u32 0), (.int .u32 0), (.int .u64 0), (.int .u32 0), (.int .u64 0), (.int .u32 0), (.int .u64 0), (.int .u32 0), (.string ⟨#[]⟩), (.int .u8 0), (.bool false), (.slice none 0 0)] rfl rfl rfl 30 _ #[(.int .i64 2), (.int .u32 0), (.int .u32 0), (.int .u64 0), (.int .u32 0), (.int .u64 0), (.int .u32 0), (.int .u64 0), (.int .u32 0), (.string ⟨#[]⟩), (.int .u8 0), (.bool false), (.slice none 0 0)] HS1.out.q (by kernel_rfl) (by show 0 + 13 ≤ 13; decide) (by kernel_rfl) (by kernel_rfl) ?_; intro w2s hq hk hb; have HS2 := Lib.hid (HS1.out.store HA.out hq hk hb); have x0 := (blk_cell HS2.out.q 0).trans (show _ = some (.int .i64 2) from rfl); clear hq hk hb)
  clear HS1
  generalize w2.heap.size = b3 at *
  refine (fieldsB_calls 2 55 (by rfl) _).mono ?_
  rintro e w3 ⟨rfl, hb⟩
  have HS3 := Lib.hid (HS2.out.below hb)
  clear hb HS2 x0
  have b1 : bits .and .i64 55 1 = 1 := by kernel_rfl
  have b2 : bits .and .i64 55 2 = 2 := by kernel_rfl
  have b4 : bits .and .i64 55 4 = 4 := by kernel_rfl
  have b8 : bits .and .i64 55 8 = 0 := by kernel_rfl
  have b16 : bits .and .i64 55 16 = 16 := by kernel_rfl
  have b32 : bits .and .i64 55 32 = 32 := by kernel_rfl
  have b64 : bits .and .i64 55 64 = 0 := by kernel_rfl
  have b128 : bits .and .i64 55 128 = 0 := by kernel_rfl
  have b256 : bits .and .i64 55 256 = 0 := by kernel_rfl
  go_wp2_with fail
  refine (rnumber w _ g _ _ 4294967295 (by decide) (by decide) HS3.out.i HS3.out.b).mono ?_
  rintro e w4c ⟨rfl, hl⟩
  have zb := rdNum_facts a.2.1 a.2.2 4294967295 (by decide)
  obtain ⟨b, hb⟩ : ∃ x, x = rdNum a.2.1 a.2.2 4294967295 := ⟨_, rfl⟩
  rw [← hb] at hl zb ⊢
  have EB := Lib.hid hb
  clear hb
  have HS4 := Lib.hid (HS3.out.call HA.out hl)
  clear hl HS3 
  have hwb : b.1 % 4294967296 = b.1 := Int.emod_eq_of_lt zb.1 (by omega)
  go_wp2_with ((with_reducible refine gate_store (t := 22) (p := 23) (v := .tmp 21) rfl ?_); refine store_ev2 (P := Try.prog) rfl 22 (.tmp 23) (.tmp 21) rfl rfl b3 1 (.int .u32 b.1) #[(.int .u32 b.1)] rfl rfl rfl 30 _ #[(.int .i64 2), (.int .u32 b.1), (.int .u32 0), (.int .u64 0), (.int .u32 0), (.int .u64 0), (.int .u32 0), (.int .u64 0), (.int .u32 0), (.string ⟨#[]⟩), (.int .u8 0), (.bool false), (.slice none 0 0)] HS4.out.q (by kernel_rfl) (by show 1 + 1 ≤ 13; decide) (by kernel_rfl) (by kernel_rfl) ?_; intro w5s hq hk hb; have HS5 := Lib.hid (HS4.out.store HA.out hq hk hb); clear hq hk hb)
  clear HS4 
  refine (rnumber w _ g _ _ 4294967295 (by decide) (by decide) HS5.out.i HS5.out.b).mono ?_
  rintro e w6c ⟨rfl, hl⟩
  have zb0 := rdNum_facts b.2.1 b.2.2 4294967295 (by decide)
  obtain ⟨b0, hb0⟩ : ∃ x, x = rdNum b.2.1 b.2.2 4294967295 := ⟨_, rfl⟩
  rw [← hb0] at hl zb0 ⊢
  have EB0 := Lib.hid hb0
  clear hb0
  have HS6 := Lib.hid (HS5.out.call HA.out hl)
  clear hl HS5 
  have hwb0 : b0.1 % 4294967296 = b0.1 := Int.emod_eq_of_lt zb0.1 (by omega)
  go_wp2_with ((with_reducible refine gate_store (t := 22) (p := 28) (v := .tmp 26) rfl ?_); refine store_ev2 (P := Try.prog) rfl 22 (.tmp 28) (.tmp 26) rfl rfl b3 2 (.int .u32 b0.1) #[(.int .u32 b0.1)] rfl rfl rfl 30 _ #[(.int .i64 2), (.int .u32 b.1), (.int .u32 b0.1), (.int .u64 0), (.int .u32 0), (.int .u64 0), (.int .u32 0), (.int .u64 0), (.int .u32 0), (.string ⟨#[]⟩), (.int .u8 0), (.bool false), (.slice none 0 0)] HS6.out.q (by kernel_rfl) (by show 2 + 1 ≤ 13; decide) (by kernel_rfl) (by kernel_rfl) ?_; intro w7s hq hk hb; have HS7 := Lib.hid (HS6.out.store HA.out hq hk hb); clear hq hk hb)
  clear HS6 
  refine (rstamp HS7.out.i HS7.out.b).mono ?_
  rintro e w8c ⟨rfl, hl⟩
  have zc := stamp_sz b0.2.1 b0.2.2
  obtain ⟨c, hc⟩ : ∃ x, x = rdStamp b0.2.1 b0.2.2 := ⟨_, rfl⟩
  rw [← hc] at hl zc ⊢
  have EC := Lib.hid hc
  clear hc
  have HS8 := Lib.hid (HS7.out.call HA.out hl)
  clear hl HS7 
  go_wp2_with ((with_reducible refine gate_store (t := 27) (p := 34) (v := .tmp 33) rfl ?_); refine store_ev2 (P := Try.prog) rfl 27 (.tmp 34) (.tmp 33) rfl rfl b3 3 (.agg #[.int .u64 c.1, .int .u32 c.2.1]) #[(.int .u64 c.1), (.int .u32 c.2.1)] rfl rfl rfl 30 _ #[(.int .i64 2), (.int .u32 b.1), (.int .u32 b0.1), (.int .u64 c.1), (.int .u32 c.2.1), (.int .u64 0), (.int .u32 0), (.int .u64 0), (.int .u32 0), (.string ⟨#[]⟩), (.int .u8 0), (.bool false), (.slice none 0 0)] HS8.out.q (by kernel_rfl) (by show 3 + 2 ≤ 13; decide) (by kernel_rfl) (by kernel_rfl) ?_; intro w9s hq hk hb; have HS9 := Lib.hid (HS8.out.store HA.out hq hk hb); clear hq hk hb)
  clear HS8 
  refine (rstamp HS9.out.i HS9.out.b).mono ?_
  rintro e w10c ⟨rfl, hl⟩
  have zd := stamp_sz c.2.2.1 c.2.2.2
  obtain ⟨d, hd⟩ : ∃ x, x = rdStamp c.2.2.1 c.2.2.2 := ⟨_, rfl⟩
  rw [← hd] at hl zd ⊢
  have ED := Lib.hid hd
  clear hd
  have HS10 := Lib.hid (HS9.out.call HA.out hl)
  clear hl HS9 
  go_wp2_with ((with_reducible refine gate_store (t := 27) (p := 40) (v := .tmp 39) rfl ?_); refine store_ev2 (P := Try.prog) rfl 27 (.tmp 40) (.tmp 39) rfl rfl b3 7 (.agg #[.int .u64 d.1, .int .u32 d.2.1]) #[(.int .u64 d.1), (.int .u32 d.2.1)] rfl rfl rfl 30 _ #[(.int .i64 2), (.int .u32 b.1), (.int .u32 b0.1), (.int .u64 c.1), (.int .u32 c.2.1), (.int .u64 0), (.int .u32 0), (.int .u64 d.1), (.int .u32 d.2.1), (.string ⟨#[]⟩), (.int .u8 0), (.bool false), (.slice none 0 0)] HS10.out.q (by kernel_rfl) (by show 7 + 2 ≤ 13; decide) (by kernel_rfl) (by kernel_rfl) ?_; intro w11s hq hk hb; have HS11 := Lib.hid (HS10.out.store HA.out hq hk hb); clear hq hk hb)
  clear HS10 
  refine (rtext 1 32 HS11.out.i HS11.out.b (by omega) (by decide) (by decide)).mono ?_
  rintro e w12c ⟨rfl, hl⟩
  have zt := text_sz d.2.2.1 d.2.2.2 1 32
  obtain ⟨t, ht⟩ : ∃ x, x = rdText d.2.2.1 d.2.2.2 1 32 := ⟨_, rfl⟩
  rw [← ht] at hl zt ⊢
  have ET := Lib.hid ht
  clear ht
  have HS12 := Lib.hid (HS11.out.call HA.out hl)
  clear hl HS11 
  go_wp2_with ((with_reducible refine gate_store (t := 9) (p := 52) (v := .tmp 51) rfl ?_); refine store_ev2 (P := Try.prog) rfl 9 (.tmp 52) (.tmp 51) rfl rfl b3 9 (.string t.1) #[(.string t.1)] rfl rfl rfl 30 _ #[(.int .i64 2), (.int .u32 b.1), (.int .u32 b0.1), (.int .u64 c.1), (.int .u32 c.2.1), (.int .u64 0), (.int .u32 0), (.int .u64 d.1), (.int .u32 d.2.1), (.string t.1), (.int .u8 0), (.bool false), (.slice none 0 0)] HS12.out.q (by kernel_rfl) (by show 9 + 1 ≤ 13; decide) (by kernel_rfl) (by kernel_rfl) ?_; intro w13s hq hk hb; have HS13 := Lib.hid (HS12.out.store HA.out hq hk hb); clear hq hk hb)
  clear HS12 
  refine (rcount 16 HS13.out.i HS13.out.b (by decide)).mono ?_
  rintro e w14c ⟨rfl, hl⟩
  have zn := (And.intro (count_sz t.2.1 t.2.2 16 (by decide)) (count_le t.2.1 t.2.2 16 (by decide)))
  obtain ⟨n, hn⟩ : ∃ x, x = rdCount t.2.1 t.2.2 16 := ⟨_, rfl⟩
  rw [← hn] at hl zn ⊢
  have EN := Lib.hid hn
  clear hn
  have HS14 := Lib.hid (HS13.out.call HA.out hl)
  clear hl HS13 
  obtain ⟨N, hN⟩ : ∃ N : Nat, n.1 = (N : Int) := ⟨n.1.toNat, by omega⟩
  have hN16 : N ≤ 16 := by omega
  have zn1 := zn.1
  clear zn
  rw [hN]
  have HN := Lib.hid hN
  clear hN
  go_wp2_with fail
  refine (list_calls N hN16 (by omega) HS14.out.i HS14.out.b).mono ?_
  unfold ListP
  rintro e w15c ⟨v, rfl, hR, hl⟩
  have zl := lst_sz rdW w_sz N n.2.1 n.2.2
  have hll := lst_len rdW N n.2.1 n.2.2
  obtain ⟨l, hl0⟩ : ∃ x, x = lstR rdW N n.2.1 n.2.2 := ⟨_, rfl⟩
  rw [← hl0] at hl zl hll hR
  have EL := Lib.hid hl0
  have HLL := Lib.hid hll
  clear hl0 hll
  obtain ⟨A, cc, rfl, hcc, _⟩ := Kd.R_reads hR
  have HCL := Lib.hid (R_clip hR)
  have HR15 := Lib.hid hR
  have HS15 := Lib.hid (HS14.out.call HA.out hl)
  clear hl hR HS14
  go_wp2_with ((with_reducible refine gate_store (t := 28) (p := 61) (v := .tmp 60) rfl ?_); refine store_ev2 (P := Try.prog) rfl 28 (.tmp 61) (.tmp 60) rfl rfl b3 12 (.slice A l.1.length cc) #[(.slice A l.1.length cc)] rfl rfl rfl 30 _ #[(.int .i64 2), (.int .u32 b.1), (.int .u32 b0.1), (.int .u64 c.1), (.int .u32 c.2.1), (.int .u64 0), (.int .u32 0), (.int .u64 d.1), (.int .u32 d.2.1), (.string t.1), (.int .u8 0), (.bool false), (.slice A l.1.length cc)] HS15.out.q (by kernel_rfl) (by show 12 + 1 ≤ 13; decide) (by kernel_rfl) (by kernel_rfl) ?_; intro w16s hq hk hb; have HS16 := Lib.hid (HS15.out.store HA.out hq hk hb); have HR16 := Lib.hid (R_thru2 HR15.out HS15.out.q (by decide) hk); clear hq hk hb)
  clear HS15 HR15
  refine (rend HS16.out.i HS16.out.b).mono ?_
  rintro e w17c ⟨rfl, hl⟩
  have HR17 := Lib.hid (R_thru2 HR16.out HS16.out.i.1 (by decide) hl.2.2)
  have HS17 := Lib.hid (HS16.out.call HA.out hl)
  clear hl HS16 HR16
  obtain ⟨en, hen⟩ : ∃ en, en = rdEnd l.2.1 l.2.2 := ⟨_, rfl⟩
  rw [← hen]
  have HEN := Lib.hid hen
  clear hen
  have HRD : Hid (readE s = if en = 0 then (if rightE ⟨2, b.1, b0.1, c.1, c.2.1, 0, 0, d.1, d.2.1, t.1, 0, false, l.1⟩ = true then (⟨2, b.1, b0.1, c.1, c.2.1, 0, 0, d.1, d.2.1, t.1, 0, false, l.1⟩, 0) else (zE, 2)) else (zE, 2)) := Lib.hid (by
    have hp : rdE s = (⟨2, b.1, b0.1, c.1, c.2.1, 0, 0, d.1, d.2.1, t.1, 0, false, l.1⟩, l.2.1, l.2.2) := by
      unfold rdE rdTail orX rdX
      rw [← EA.out, HK0.out]
      simp [hB, hS, hM, hA, hW, hT, hD, lstR, ← EB.out, ← EB0.out, ← EC.out, ← ED.out, ← ET.out, ← EN.out, HN.out, Int.toNat_natCast, ← EL.out]
    unfold readE
    rw [hp, ← HEN.out])
  have HOK : Hid (EOk ⟨2, b.1, b0.1, c.1, c.2.1, 0, 0, d.1, d.2.1, t.1, 0, false, l.1⟩) := Lib.hid (by
    have hp : (rdTail 2 a.2.1 a.2.2).1 = ⟨2, b.1, b0.1, c.1, c.2.1, 0, 0, d.1, d.2.1, t.1, 0, false, l.1⟩ := by
      unfold rdTail orX rdX
      simp [hB, hS, hM, hA, hW, hT, hD, lstR, ← EB.out, ← EB0.out, ← EC.out, ← ED.out, ← ET.out, ← EN.out, HN.out, Int.toNat_natCast, ← EL.out]
    rw [← hp]
    exact tailOk _ (by decide) _ _)
  rcases (show en = 0 ∨ en ≠ 0 from by omega) with he | he
  · subst he
    have HCC : Hid (Kd.C k54 w17c A l.1.length l.1 ∧ l.1.length ≤ cc) := Lib.hid ⟨(Kd.R_reads' HR17.out).2.2, (Kd.R_reads' HR17.out).2.1⟩
    cases hri : rightE ⟨2, b.1, b0.1, c.1, c.2.1, 0, 0, d.1, d.2.1, t.1, 0, false, l.1⟩ with
    | false =>
      have HR2 : Hid (readE s = (zE, 2)) := Lib.hid (by rw [HRD.out, if_pos rfl, if_neg (by rw [hri]; decide)])
      have HRI := Lib.hid ((right_calls ⟨2, b.1, b0.1, c.1, c.2.1, 0, 0, d.1, d.2.1, t.1, 0, false, l.1⟩ A cc w17c HCC.out.1 HOK.out.ws).mono fun r w' (h : r = .returned (.bool (rightE ⟨2, b.1, b0.1, c.1, c.2.1, 0, 0, d.1, d.2.1, t.1, 0, false, l.1⟩)) ∧ Below w17c.heap.size w17c w') => (⟨by rw [h.1, hri], h.2⟩ : r = .returned (.bool false) ∧ Below w17c.heap.size w17c w'))
      have HRV := Lib.hid hri
      clear hri
      go_wp2_with (first | ((with_reducible refine gate_dst (N := 86) rfl ?_); refine wpList_load_row rfl 30 (.tmp 5) rfl b3 rfl 30 _ (0, 0) _ HS17.out.q Try.underlying30 rfl (by kernel_rfl) ?_) | ((with_reducible refine gate_dst (N := 86) rfl ?_); refine gate_guard (by rfl) ?_; refine wpList_load_row rfl 30 (.tmp 5) rfl b3 rfl 30 _ (0, 0) _ HS17.out.q Try.underlying30 rfl (by kernel_rfl) ?_))
      refine HRI.out.mono ?_
      rintro e wr ⟨rfl, hBr⟩
      have HSr := Lib.hid (HS17.out.below hBr)
      have HRr := Lib.hid (Kd.R_below HR17.out hBr)
      clear hBr
      go_wp2_with ((with_reducible refine gate_store (t := 30) (p := 2) (v := .tmp 90) rfl ?_); refine store_ev2 (P := Try.prog) rfl 30 (.tmp 2) (.tmp 90) rfl rfl w.heap.size 0 (.agg #[(.int .i64 0), (.int .u32 0), (.int .u32 0), (.int .u64 0), (.int .u32 0), (.int .u64 0), (.int .u32 0), (.int .u64 0), (.int .u32 0), (.string ⟨#[]⟩), (.int .u8 0), (.bool false), (.slice none 0 0)]) #[(.int .i64 0), (.int .u32 0), (.int .u32 0), (.int .u64 0), (.int .u32 0), (.int .u64 0), (.int .u32 0), (.int .u64 0), (.int .u32 0), (.string ⟨#[]⟩), (.int .u8 0), (.bool false), (.slice none 0 0)] rfl rfl rfl 30 _ #[(.int .i64 0), (.int .u32 0), (.int .u32 0), (.int .u64 0), (.int .u32 0), (.int .u64 0), (.int .u32 0), (.int .u64 0), (.int .u32 0), (.string ⟨#[]⟩), (.int .u8 0), (.bool false), (.slice none 0 0)] HSr.out.z (by kernel_rfl) (by show 0 + 13 ≤ 13; decide) (by kernel_rfl) (by kernel_rfl) ?_; intro w19 hq hk hb; have HZ9 := Lib.hid hq; have HB9 := Lib.hid (hb _ _ HA.out.a HSr.out.b); clear hq hk hb)
      refine bodyPost_ret (results_ct rfl _ _ w.heap.size 30 _ (0, 0) _ rfl HZ9.out Try.underlying30 rfl (by kernel_rfl)) rfl ?_
      exact ⟨none, 0, by rw [HR2.out]; rfl, by rw [HR2.out]; exact Kd.C_nil _ _, by rw [HR2.out]; exact Nat.le_refl _, HB9.out⟩
    | true =>
      have HR2 : Hid (readE s = (⟨2, b.1, b0.1, c.1, c.2.1, 0, 0, d.1, d.2.1, t.1, 0, false, l.1⟩, 0)) := Lib.hid (by rw [HRD.out, if_pos rfl, if_pos hri])
      have HRI := Lib.hid ((right_calls ⟨2, b.1, b0.1, c.1, c.2.1, 0, 0, d.1, d.2.1, t.1, 0, false, l.1⟩ A cc w17c HCC.out.1 HOK.out.ws).mono fun r w' (h : r = .returned (.bool (rightE ⟨2, b.1, b0.1, c.1, c.2.1, 0, 0, d.1, d.2.1, t.1, 0, false, l.1⟩)) ∧ Below w17c.heap.size w17c w') => (⟨by rw [h.1, hri], h.2⟩ : r = .returned (.bool true) ∧ Below w17c.heap.size w17c w'))
      have HRV := Lib.hid hri
      clear hri
      go_wp2_with (first | ((with_reducible refine gate_dst (N := 86) rfl ?_); refine wpList_load_row rfl 30 (.tmp 5) rfl b3 rfl 30 _ (0, 0) _ HS17.out.q Try.underlying30 rfl (by kernel_rfl) ?_) | ((with_reducible refine gate_dst (N := 86) rfl ?_); refine gate_guard (by rfl) ?_; refine wpList_load_row rfl 30 (.tmp 5) rfl b3 rfl 30 _ (0, 0) _ HS17.out.q Try.underlying30 rfl (by kernel_rfl) ?_))
      refine HRI.out.mono ?_
      rintro e wr ⟨rfl, hBr⟩
      have HSr := Lib.hid (HS17.out.below hBr)
      have HRr := Lib.hid (Kd.R_below HR17.out hBr)
      clear hBr
      have x12 := (blk_cell HSr.out.q 12).trans (show _ = some (.slice A l.1.length cc) from rfl)
      go_wp2_with fail
      refine (clip_calls A l.1.length cc _ HCC.out.2 HCL.out.1 HCL.out.2).mono ?_
      rintro e wx ⟨rfl, hwx⟩
      subst hwx
      clear x12
      go_wp2_with (first | ((with_reducible refine gate_store (t := 28) (p := 94) (v := .tmp 93) rfl ?_); refine store_ev2 (P := Try.prog) rfl 28 (.tmp 94) (.tmp 93) rfl rfl b3 12 (.slice A l.1.length l.1.length) #[(.slice A l.1.length l.1.length)] rfl rfl rfl 30 _ #[(.int .i64 2), (.int .u32 b.1), (.int .u32 b0.1), (.int .u64 c.1), (.int .u32 c.2.1), (.int .u64 0), (.int .u32 0), (.int .u64 d.1), (.int .u32 d.2.1), (.string t.1), (.int .u8 0), (.bool false), (.slice A l.1.length l.1.length)] HSr.out.q (by kernel_rfl) (by show 12 + 1 ≤ 13; decide) (by kernel_rfl) (by kernel_rfl) ?_; intro wy hq hk hb; have HSx := Lib.hid (HSr.out.store HA.out hq hk hb); have HRx := Lib.hid (R_thru2 HRr.out HSr.out.q (by decide) hk); clear hq hk hb) | ((with_reducible refine gate_dst (N := 95) rfl ?_); refine wpList_load_row rfl 30 (.tmp 5) rfl b3 rfl 30 _ (0, 0) _ HSx.out.q Try.underlying30 rfl (by kernel_rfl) ?_) | ((with_reducible refine gate_store (t := 30) (p := 2) (v := .tmp 95) rfl ?_); refine store_ev2 (P := Try.prog) rfl 30 (.tmp 2) (.tmp 95) rfl rfl w.heap.size 0 (.agg #[(.int .i64 2), (.int .u32 b.1), (.int .u32 b0.1), (.int .u64 c.1), (.int .u32 c.2.1), (.int .u64 0), (.int .u32 0), (.int .u64 d.1), (.int .u32 d.2.1), (.string t.1), (.int .u8 0), (.bool false), (.slice A l.1.length l.1.length)]) #[(.int .i64 2), (.int .u32 b.1), (.int .u32 b0.1), (.int .u64 c.1), (.int .u32 c.2.1), (.int .u64 0), (.int .u32 0), (.int .u64 d.1), (.int .u32 d.2.1), (.string t.1), (.int .u8 0), (.bool false), (.slice A l.1.length l.1.length)] rfl rfl rfl 30 _ #[(.int .i64 2), (.int .u32 b.1), (.int .u32 b0.1), (.int .u64 c.1), (.int .u32 c.2.1), (.int .u64 0), (.int .u32 0), (.int .u64 d.1), (.int .u32 d.2.1), (.string t.1), (.int .u8 0), (.bool false), (.slice A l.1.length l.1.length)] HSx.out.z (by kernel_rfl) (by show 0 + 13 ≤ 13; decide) (by kernel_rfl) (by kernel_rfl) ?_; intro w19 hq hk hb; have HZ9 := Lib.hid hq; have HB9 := Lib.hid (hb _ _ HA.out.a HSx.out.b); have HRz := Lib.hid (R_thru2 HRx.out HSx.out.z (by decide) hk); clear hq hk hb))
      refine bodyPost_ret (results_ct rfl _ _ w.heap.size 30 _ (0, 0) _ rfl HZ9.out Try.underlying30 rfl (by kernel_rfl)) rfl ?_
      exact ⟨A, l.1.length, by rw [HR2.out]; rfl, by rw [HR2.out]; exact (Kd.R_reads' HRz.out).2.2, by rw [HR2.out]; exact Nat.le_refl _, HB9.out⟩
  · have HR2 : Hid (readE s = (zE, 2)) := Lib.hid (by rw [HRD.out, if_neg he])
    have heb : (en == 0) = false := by simpa using he
    have heb2 : (en != 0) = true := by simpa using he
    go_wp2_with ((with_reducible refine gate_store (t := 30) (p := 2) (v := .tmp 90) rfl ?_); refine store_ev2 (P := Try.prog) rfl 30 (.tmp 2) (.tmp 90) rfl rfl w.heap.size 0 (.agg #[(.int .i64 0), (.int .u32 0), (.int .u32 0), (.int .u64 0), (.int .u32 0), (.int .u64 0), (.int .u32 0), (.int .u64 0), (.int .u32 0), (.string ⟨#[]⟩), (.int .u8 0), (.bool false), (.slice none 0 0)]) #[(.int .i64 0), (.int .u32 0), (.int .u32 0), (.int .u64 0), (.int .u32 0), (.int .u64 0), (.int .u32 0), (.int .u64 0), (.int .u32 0), (.string ⟨#[]⟩), (.int .u8 0), (.bool false), (.slice none 0 0)] rfl rfl rfl 30 _ #[(.int .i64 0), (.int .u32 0), (.int .u32 0), (.int .u64 0), (.int .u32 0), (.int .u64 0), (.int .u32 0), (.int .u64 0), (.int .u32 0), (.string ⟨#[]⟩), (.int .u8 0), (.bool false), (.slice none 0 0)] HS17.out.z (by kernel_rfl) (by show 0 + 13 ≤ 13; decide) (by kernel_rfl) (by kernel_rfl) ?_; intro w19 hq hk hb; have HZ9 := Lib.hid hq; have HB9 := Lib.hid (hb _ _ HA.out.a HS17.out.b); clear hq hk hb)
    refine bodyPost_ret (results_ct rfl _ _ w.heap.size 30 _ (0, 0) _ rfl HZ9.out Try.underlying30 rfl (by kernel_rfl)) rfl ?_
    exact ⟨none, 0, by rw [HR2.out]; rfl, by rw [HR2.out]; exact Kd.C_nil _ _, by rw [HR2.out]; exact Nat.le_refl _, HB9.out⟩
set_option maxRecDepth 100000 in
set_option maxHeartbeats 16000000 in
theorem read_3 (s : ByteArray) (hs : s.size ≤ 9223372036854775807) (w : World) (hk : (rdNum s 0 9).1 = 3) : Calls Try.prog 11 #[.string s] w (ReadP s w) := by
  have HX0 := Lib.hid (heap_alloc_new w (.cells #[(.int .i64 0), (.int .u32 0), (.int .u32 0), (.int .u64 0), (.int .u32 0), (.int .u64 0), (.int .u32 0), (.int .u64 0), (.int .u32 0), (.string ⟨#[]⟩), (.int .u8 0), (.bool false), (.slice none 0 0)] 30))
  have HB0 := Lib.hid (below_alloc' (Below.refl _ w) (.cells #[(.int .i64 0), (.int .u32 0), (.int .u32 0), (.int .u64 0), (.int .u32 0), (.int .u64 0), (.int .u32 0), (.int .u64 0), (.int .u32 0), (.string ⟨#[]⟩), (.int .u8 0), (.bool false), (.slice none 0 0)] 30))
  go_enter Try.func11, Try.ntmps11
  go_wp2_with fail
  refine (rnew s HB0.out).mono ?_
  rintro e w1 ⟨g, rfl, hI, hB, hb1, hge⟩
  have HX1 := Lib.hid ((hb1.block _ (lt_at2 HX0.out)).trans HX0.out)
  have HN2 : Hid (w.heap.size ≠ g) := Lib.hid (by have := lt_at2 HX0.out; omega)
  have HI1 := Lib.hid hI
  have HB1 := Lib.hid hB
  clear hI hB hb1 hge HX0 HB0
  go_wp2_with fail
  refine (rnumber w _ g s 0 9 (by decide) (by decide) HI1.out HB1.out).mono ?_
  rintro e w2 ⟨rfl, hl⟩
  have hkk := hk
  have za := rdNum_facts s 0 9 (by decide)
  obtain ⟨a, ha⟩ : ∃ x, x = rdNum s 0 9 := ⟨_, rfl⟩
  rw [← ha] at hl za hk ⊢
  have EA := Lib.hid ha
  have zaz := za.2.2
  rw [hk]
  have HK0 := Lib.hid hk
  clear ha hk hkk za
  have h2 := blk_keep HX1.out hl.2.2 HN2.out
  have h3 := heap_alloc_new w2 (.cells #[(.int .i64 0), (.int .u32 0), (.int .u32 0), (.int .u64 0), (.int .u32 0), (.int .u64 0), (.int .u32 0), (.int .u64 0), (.int .u32 0), (.string ⟨#[]⟩), (.int .u8 0), (.bool false), (.slice none 0 0)] 30)
  have hg1 := lt_at2 hl.1.1
  have h22 := lt_at2 h2
  have HA : Hid (PUt w g w.heap.size w2.heap.size) := Lib.hid ⟨Nat.le_refl _, by have := hl.2.1.size; omega, HN2.out, by omega, by omega⟩
  have HS1 : Hid (PSu w g w.heap.size w2.heap.size #[(.int .i64 0), (.int .u32 0), (.int .u32 0), (.int .u64 0), (.int .u32 0), (.int .u64 0), (.int .u32 0), (.int .u64 0), (.int .u32 0), (.string ⟨#[]⟩), (.int .u8 0), (.bool false), (.slice none 0 0)] a.2.1 a.2.2 #[(.int .i64 0), (.int .u32 0), (.int .u32 0), (.int .u64 0), (.int .u32 0), (.int .u64 0), (.int .u32 0), (.int .u64 0), (.int .u32 0), (.string ⟨#[]⟩), (.int .u8 0), (.bool false), (.slice none 0 0)] (w2.alloc (.cells #[(.int .i64 0), (.int .u32 0), (.int .u32 0), (.int .u64 0), (.int .u32 0), (.int .u64 0), (.int .u32 0), (.int .u64 0), (.int .u32 0), (.string ⟨#[]⟩), (.int .u8 0), (.bool false), (.slice none 0 0)] 30))) := Lib.hid ⟨hl.1.alloc _, below_alloc' hl.2.1 _, blk_alloc h2 _, h3⟩
  clear hl h2 h3 hg1 h22 HX1 HN2 HI1 HB1
  go_wp2_with ((with_reducible refine gate_store (t := 30) (p := 5) (v := .tmp 12) rfl ?_); refine store_ev2 (P := Try.prog) rfl 30 (.tmp 5) (.tmp 12) rfl rfl w2.heap.size 0 (.agg #[(.int .i64 3), (.int .u32 0), (.int .u32 0), (.int .u64 0), (.int .u32 0), (.int .u64 0), (.int .u32 0), (.int .u64 0), (.int .u32 0), (.string ⟨#[]⟩), (.int .u8 0), (.bool false), (.slice none 0 0)]) #[(.int .i64 3), (.int .u32 0), (.int .u32 0), (.int .u64 0), (.int .u32 0), (.int .u64 0), (.int .u32 0), (.int .u64 0), (.int .u32 0), (.string ⟨#[]⟩), (.int .u8 0), (.bool false), (.slice none 0 0)] rfl rfl rfl 30 _ #[(.int .i64 3), (.int .u32 0), (.int .u32 0), (.int .u64 0), (.int .u32 0), (.int .u64 0), (.int .u32 0), (.int .u64 0), (.int .u32 0), (.string ⟨#[]⟩), (.int .u8 0), (.bool false), (.slice none 0 0)] HS1.out.q (by kernel_rfl) (by show 0 + 13 ≤ 13; decide) (by kernel_rfl) (by kernel_rfl) ?_; intro w2s hq hk hb; have HS2 := Lib.hid (HS1.out.store HA.out hq hk hb); have x0 := (blk_cell HS2.out.q 0).trans (show _ = some (.int .i64 3) from rfl); clear hq hk hb)
  clear HS1
  generalize w2.heap.size = b3 at *
  refine (fieldsB_calls 3 139 (by rfl) _).mono ?_
  rintro e w3 ⟨rfl, hb⟩
  have HS3 := Lib.hid (HS2.out.below hb)
  clear hb HS2 x0
  have b1 : bits .and .i64 139 1 = 1 := by kernel_rfl
  have b2 : bits .and .i64 139 2 = 2 := by kernel_rfl
  have b4 : bits .and .i64 139 4 = 0 := by kernel_rfl
  have b8 : bits .and .i64 139 8 = 8 := by kernel_rfl
  have b16 : bits .and .i64 139 16 = 0 := by kernel_rfl
  have b32 : bits .and .i64 139 32 = 0 := by kernel_rfl
  have b64 : bits .and .i64 139 64 = 0 := by kernel_rfl
  have b128 : bits .and .i64 139 128 = 128 := by kernel_rfl
  have b256 : bits .and .i64 139 256 = 0 := by kernel_rfl
  go_wp2_with fail
  refine (rnumber w _ g _ _ 4294967295 (by decide) (by decide) HS3.out.i HS3.out.b).mono ?_
  rintro e w4c ⟨rfl, hl⟩
  have zb := rdNum_facts a.2.1 a.2.2 4294967295 (by decide)
  obtain ⟨b, hb⟩ : ∃ x, x = rdNum a.2.1 a.2.2 4294967295 := ⟨_, rfl⟩
  rw [← hb] at hl zb ⊢
  have EB := Lib.hid hb
  clear hb
  have HS4 := Lib.hid (HS3.out.call HA.out hl)
  clear hl HS3 
  have hwb : b.1 % 4294967296 = b.1 := Int.emod_eq_of_lt zb.1 (by omega)
  go_wp2_with ((with_reducible refine gate_store (t := 22) (p := 23) (v := .tmp 21) rfl ?_); refine store_ev2 (P := Try.prog) rfl 22 (.tmp 23) (.tmp 21) rfl rfl b3 1 (.int .u32 b.1) #[(.int .u32 b.1)] rfl rfl rfl 30 _ #[(.int .i64 3), (.int .u32 b.1), (.int .u32 0), (.int .u64 0), (.int .u32 0), (.int .u64 0), (.int .u32 0), (.int .u64 0), (.int .u32 0), (.string ⟨#[]⟩), (.int .u8 0), (.bool false), (.slice none 0 0)] HS4.out.q (by kernel_rfl) (by show 1 + 1 ≤ 13; decide) (by kernel_rfl) (by kernel_rfl) ?_; intro w5s hq hk hb; have HS5 := Lib.hid (HS4.out.store HA.out hq hk hb); clear hq hk hb)
  clear HS4 
  refine (rnumber w _ g _ _ 4294967295 (by decide) (by decide) HS5.out.i HS5.out.b).mono ?_
  rintro e w6c ⟨rfl, hl⟩
  have zb0 := rdNum_facts b.2.1 b.2.2 4294967295 (by decide)
  obtain ⟨b0, hb0⟩ : ∃ x, x = rdNum b.2.1 b.2.2 4294967295 := ⟨_, rfl⟩
  rw [← hb0] at hl zb0 ⊢
  have EB0 := Lib.hid hb0
  clear hb0
  have HS6 := Lib.hid (HS5.out.call HA.out hl)
  clear hl HS5 
  have hwb0 : b0.1 % 4294967296 = b0.1 := Int.emod_eq_of_lt zb0.1 (by omega)
  go_wp2_with ((with_reducible refine gate_store (t := 22) (p := 28) (v := .tmp 26) rfl ?_); refine store_ev2 (P := Try.prog) rfl 22 (.tmp 28) (.tmp 26) rfl rfl b3 2 (.int .u32 b0.1) #[(.int .u32 b0.1)] rfl rfl rfl 30 _ #[(.int .i64 3), (.int .u32 b.1), (.int .u32 b0.1), (.int .u64 0), (.int .u32 0), (.int .u64 0), (.int .u32 0), (.int .u64 0), (.int .u32 0), (.string ⟨#[]⟩), (.int .u8 0), (.bool false), (.slice none 0 0)] HS6.out.q (by kernel_rfl) (by show 2 + 1 ≤ 13; decide) (by kernel_rfl) (by kernel_rfl) ?_; intro w7s hq hk hb; have HS7 := Lib.hid (HS6.out.store HA.out hq hk hb); clear hq hk hb)
  clear HS6 
  refine (rstamp HS7.out.i HS7.out.b).mono ?_
  rintro e w8c ⟨rfl, hl⟩
  have zc := stamp_sz b0.2.1 b0.2.2
  obtain ⟨c, hc⟩ : ∃ x, x = rdStamp b0.2.1 b0.2.2 := ⟨_, rfl⟩
  rw [← hc] at hl zc ⊢
  have EC := Lib.hid hc
  clear hc
  have HS8 := Lib.hid (HS7.out.call HA.out hl)
  clear hl HS7 
  go_wp2_with ((with_reducible refine gate_store (t := 27) (p := 34) (v := .tmp 33) rfl ?_); refine store_ev2 (P := Try.prog) rfl 27 (.tmp 34) (.tmp 33) rfl rfl b3 3 (.agg #[.int .u64 c.1, .int .u32 c.2.1]) #[(.int .u64 c.1), (.int .u32 c.2.1)] rfl rfl rfl 30 _ #[(.int .i64 3), (.int .u32 b.1), (.int .u32 b0.1), (.int .u64 c.1), (.int .u32 c.2.1), (.int .u64 0), (.int .u32 0), (.int .u64 0), (.int .u32 0), (.string ⟨#[]⟩), (.int .u8 0), (.bool false), (.slice none 0 0)] HS8.out.q (by kernel_rfl) (by show 3 + 2 ≤ 13; decide) (by kernel_rfl) (by kernel_rfl) ?_; intro w9s hq hk hb; have HS9 := Lib.hid (HS8.out.store HA.out hq hk hb); clear hq hk hb)
  clear HS8 
  refine (rstamp HS9.out.i HS9.out.b).mono ?_
  rintro e w10c ⟨rfl, hl⟩
  have zf := stamp_sz c.2.2.1 c.2.2.2
  obtain ⟨f, hf⟩ : ∃ x, x = rdStamp c.2.2.1 c.2.2.2 := ⟨_, rfl⟩
  rw [← hf] at hl zf ⊢
  have EF := Lib.hid hf
  clear hf
  have HS10 := Lib.hid (HS9.out.call HA.out hl)
  clear hl HS9 
  go_wp2_with ((with_reducible refine gate_store (t := 27) (p := 46) (v := .tmp 45) rfl ?_); refine store_ev2 (P := Try.prog) rfl 27 (.tmp 46) (.tmp 45) rfl rfl b3 5 (.agg #[.int .u64 f.1, .int .u32 f.2.1]) #[(.int .u64 f.1), (.int .u32 f.2.1)] rfl rfl rfl 30 _ #[(.int .i64 3), (.int .u32 b.1), (.int .u32 b0.1), (.int .u64 c.1), (.int .u32 c.2.1), (.int .u64 f.1), (.int .u32 f.2.1), (.int .u64 0), (.int .u32 0), (.string ⟨#[]⟩), (.int .u8 0), (.bool false), (.slice none 0 0)] HS10.out.q (by kernel_rfl) (by show 5 + 2 ≤ 13; decide) (by kernel_rfl) (by kernel_rfl) ?_; intro w11s hq hk hb; have HS11 := Lib.hid (HS10.out.store HA.out hq hk hb); clear hq hk hb)
  clear HS10 
  refine (rnumber w _ g _ _ 255 (by decide) (by decide) HS11.out.i HS11.out.b).mono ?_
  rintro e w12c ⟨rfl, hl⟩
  have zm := rdNum_facts f.2.2.1 f.2.2.2 255 (by decide)
  obtain ⟨m, hm⟩ : ∃ x, x = rdNum f.2.2.1 f.2.2.2 255 := ⟨_, rfl⟩
  rw [← hm] at hl zm ⊢
  have EM := Lib.hid hm
  clear hm
  have HS12 := Lib.hid (HS11.out.call HA.out hl)
  clear hl HS11 
  have hwm : m.1 % 256 = m.1 := Int.emod_eq_of_lt zm.1 (by omega)
  go_wp2_with ((with_reducible refine gate_store (t := 5) (p := 75) (v := .tmp 74) rfl ?_); refine store_ev2 (P := Try.prog) rfl 5 (.tmp 75) (.tmp 74) rfl rfl b3 10 (.int .u8 m.1) #[(.int .u8 m.1)] rfl rfl rfl 30 _ #[(.int .i64 3), (.int .u32 b.1), (.int .u32 b0.1), (.int .u64 c.1), (.int .u32 c.2.1), (.int .u64 f.1), (.int .u32 f.2.1), (.int .u64 0), (.int .u32 0), (.string ⟨#[]⟩), (.int .u8 m.1), (.bool false), (.slice none 0 0)] HS12.out.q (by kernel_rfl) (by show 10 + 1 ≤ 13; decide) (by kernel_rfl) (by kernel_rfl) ?_; intro w13s hq hk hb; have HS13 := Lib.hid (HS12.out.store HA.out hq hk hb); clear hq hk hb)
  clear HS12 
  refine (rend HS13.out.i HS13.out.b).mono ?_
  rintro e w14c ⟨rfl, hl⟩
  have HS14 := Lib.hid (HS13.out.call HA.out hl)
  clear hl HS13 
  obtain ⟨en, hen⟩ : ∃ en, en = rdEnd m.2.1 m.2.2 := ⟨_, rfl⟩
  rw [← hen]
  have HEN := Lib.hid hen
  clear hen
  have HRD : Hid (readE s = if en = 0 then (if rightE ⟨3, b.1, b0.1, c.1, c.2.1, f.1, f.2.1, 0, 0, ⟨#[]⟩, m.1, false, []⟩ = true then (⟨3, b.1, b0.1, c.1, c.2.1, f.1, f.2.1, 0, 0, ⟨#[]⟩, m.1, false, []⟩, 0) else (zE, 2)) else (zE, 2)) := Lib.hid (by
    have hp : rdE s = (⟨3, b.1, b0.1, c.1, c.2.1, f.1, f.2.1, 0, 0, ⟨#[]⟩, m.1, false, []⟩, m.2.1, m.2.2) := by
      unfold rdE rdTail orX rdX
      rw [← EA.out, HK0.out]
      simp [hB, hS, hM, hA, hW, hT, hD, lstR, ← EB.out, ← EB0.out, ← EC.out, ← EF.out, ← EM.out]
    unfold readE
    rw [hp, ← HEN.out])
  have HOK : Hid (EOk ⟨3, b.1, b0.1, c.1, c.2.1, f.1, f.2.1, 0, 0, ⟨#[]⟩, m.1, false, []⟩) := Lib.hid (by
    have hp : (rdTail 3 a.2.1 a.2.2).1 = ⟨3, b.1, b0.1, c.1, c.2.1, f.1, f.2.1, 0, 0, ⟨#[]⟩, m.1, false, []⟩ := by
      unfold rdTail orX rdX
      simp [hB, hS, hM, hA, hW, hT, hD, lstR, ← EB.out, ← EB0.out, ← EC.out, ← EF.out, ← EM.out]
    rw [← hp]
    exact tailOk _ (by decide) _ _)
  rcases (show en = 0 ∨ en ≠ 0 from by omega) with he | he
  · subst he
    cases hri : rightE ⟨3, b.1, b0.1, c.1, c.2.1, f.1, f.2.1, 0, 0, ⟨#[]⟩, m.1, false, []⟩ with
    | false =>
      have HR2 : Hid (readE s = (zE, 2)) := Lib.hid (by rw [HRD.out, if_pos rfl, if_neg (by rw [hri]; decide)])
      have HRI := Lib.hid ((right_calls ⟨3, b.1, b0.1, c.1, c.2.1, f.1, f.2.1, 0, 0, ⟨#[]⟩, m.1, false, []⟩ none 0 w14c (Kd.C_nil _ _) HOK.out.ws).mono fun r w' (h : r = .returned (.bool (rightE ⟨3, b.1, b0.1, c.1, c.2.1, f.1, f.2.1, 0, 0, ⟨#[]⟩, m.1, false, []⟩)) ∧ Below w14c.heap.size w14c w') => (⟨by rw [h.1, hri], h.2⟩ : r = .returned (.bool false) ∧ Below w14c.heap.size w14c w'))
      have HRV := Lib.hid hri
      clear hri
      go_wp2_with (first | ((with_reducible refine gate_dst (N := 86) rfl ?_); refine wpList_load_row rfl 30 (.tmp 5) rfl b3 rfl 30 _ (0, 0) _ HS14.out.q Try.underlying30 rfl (by kernel_rfl) ?_) | ((with_reducible refine gate_dst (N := 86) rfl ?_); refine gate_guard (by rfl) ?_; refine wpList_load_row rfl 30 (.tmp 5) rfl b3 rfl 30 _ (0, 0) _ HS14.out.q Try.underlying30 rfl (by kernel_rfl) ?_))
      refine HRI.out.mono ?_
      rintro e wr ⟨rfl, hBr⟩
      have HSr := Lib.hid (HS14.out.below hBr)
      clear hBr
      go_wp2_with ((with_reducible refine gate_store (t := 30) (p := 2) (v := .tmp 90) rfl ?_); refine store_ev2 (P := Try.prog) rfl 30 (.tmp 2) (.tmp 90) rfl rfl w.heap.size 0 (.agg #[(.int .i64 0), (.int .u32 0), (.int .u32 0), (.int .u64 0), (.int .u32 0), (.int .u64 0), (.int .u32 0), (.int .u64 0), (.int .u32 0), (.string ⟨#[]⟩), (.int .u8 0), (.bool false), (.slice none 0 0)]) #[(.int .i64 0), (.int .u32 0), (.int .u32 0), (.int .u64 0), (.int .u32 0), (.int .u64 0), (.int .u32 0), (.int .u64 0), (.int .u32 0), (.string ⟨#[]⟩), (.int .u8 0), (.bool false), (.slice none 0 0)] rfl rfl rfl 30 _ #[(.int .i64 0), (.int .u32 0), (.int .u32 0), (.int .u64 0), (.int .u32 0), (.int .u64 0), (.int .u32 0), (.int .u64 0), (.int .u32 0), (.string ⟨#[]⟩), (.int .u8 0), (.bool false), (.slice none 0 0)] HSr.out.z (by kernel_rfl) (by show 0 + 13 ≤ 13; decide) (by kernel_rfl) (by kernel_rfl) ?_; intro w19 hq hk hb; have HZ9 := Lib.hid hq; have HB9 := Lib.hid (hb _ _ HA.out.a HSr.out.b); clear hq hk hb)
      refine bodyPost_ret (results_ct rfl _ _ w.heap.size 30 _ (0, 0) _ rfl HZ9.out Try.underlying30 rfl (by kernel_rfl)) rfl ?_
      exact ⟨none, 0, by rw [HR2.out]; rfl, by rw [HR2.out]; exact Kd.C_nil _ _, by rw [HR2.out]; exact Nat.le_refl _, HB9.out⟩
    | true =>
      have HR2 : Hid (readE s = (⟨3, b.1, b0.1, c.1, c.2.1, f.1, f.2.1, 0, 0, ⟨#[]⟩, m.1, false, []⟩, 0)) := Lib.hid (by rw [HRD.out, if_pos rfl, if_pos hri])
      have HRI := Lib.hid ((right_calls ⟨3, b.1, b0.1, c.1, c.2.1, f.1, f.2.1, 0, 0, ⟨#[]⟩, m.1, false, []⟩ none 0 w14c (Kd.C_nil _ _) HOK.out.ws).mono fun r w' (h : r = .returned (.bool (rightE ⟨3, b.1, b0.1, c.1, c.2.1, f.1, f.2.1, 0, 0, ⟨#[]⟩, m.1, false, []⟩)) ∧ Below w14c.heap.size w14c w') => (⟨by rw [h.1, hri], h.2⟩ : r = .returned (.bool true) ∧ Below w14c.heap.size w14c w'))
      have HRV := Lib.hid hri
      clear hri
      go_wp2_with (first | ((with_reducible refine gate_dst (N := 86) rfl ?_); refine wpList_load_row rfl 30 (.tmp 5) rfl b3 rfl 30 _ (0, 0) _ HS14.out.q Try.underlying30 rfl (by kernel_rfl) ?_) | ((with_reducible refine gate_dst (N := 86) rfl ?_); refine gate_guard (by rfl) ?_; refine wpList_load_row rfl 30 (.tmp 5) rfl b3 rfl 30 _ (0, 0) _ HS14.out.q Try.underlying30 rfl (by kernel_rfl) ?_))
      refine HRI.out.mono ?_
      rintro e wr ⟨rfl, hBr⟩
      have HSr := Lib.hid (HS14.out.below hBr)
      clear hBr
      have x12 := (blk_cell HSr.out.q 12).trans (show _ = some (.slice none 0 0) from rfl)
      go_wp2_with fail
      refine (clip_calls none 0 0 _ (Nat.le_refl _) (by decide) (fun _ => ⟨rfl, rfl⟩)).mono ?_
      rintro e wx ⟨rfl, hwx⟩
      subst hwx
      clear x12
      go_wp2_with (first | ((with_reducible refine gate_store (t := 28) (p := 94) (v := .tmp 93) rfl ?_); refine store_ev2 (P := Try.prog) rfl 28 (.tmp 94) (.tmp 93) rfl rfl b3 12 (.slice none 0 0) #[(.slice none 0 0)] rfl rfl rfl 30 _ #[(.int .i64 3), (.int .u32 b.1), (.int .u32 b0.1), (.int .u64 c.1), (.int .u32 c.2.1), (.int .u64 f.1), (.int .u32 f.2.1), (.int .u64 0), (.int .u32 0), (.string ⟨#[]⟩), (.int .u8 m.1), (.bool false), (.slice none 0 0)] HSr.out.q (by kernel_rfl) (by show 12 + 1 ≤ 13; decide) (by kernel_rfl) (by kernel_rfl) ?_; intro wy hq hk hb; have HSx := Lib.hid (HSr.out.store HA.out hq hk hb); clear hq hk hb) | ((with_reducible refine gate_dst (N := 95) rfl ?_); refine wpList_load_row rfl 30 (.tmp 5) rfl b3 rfl 30 _ (0, 0) _ HSx.out.q Try.underlying30 rfl (by kernel_rfl) ?_) | ((with_reducible refine gate_store (t := 30) (p := 2) (v := .tmp 95) rfl ?_); refine store_ev2 (P := Try.prog) rfl 30 (.tmp 2) (.tmp 95) rfl rfl w.heap.size 0 (.agg #[(.int .i64 3), (.int .u32 b.1), (.int .u32 b0.1), (.int .u64 c.1), (.int .u32 c.2.1), (.int .u64 f.1), (.int .u32 f.2.1), (.int .u64 0), (.int .u32 0), (.string ⟨#[]⟩), (.int .u8 m.1), (.bool false), (.slice none 0 0)]) #[(.int .i64 3), (.int .u32 b.1), (.int .u32 b0.1), (.int .u64 c.1), (.int .u32 c.2.1), (.int .u64 f.1), (.int .u32 f.2.1), (.int .u64 0), (.int .u32 0), (.string ⟨#[]⟩), (.int .u8 m.1), (.bool false), (.slice none 0 0)] rfl rfl rfl 30 _ #[(.int .i64 3), (.int .u32 b.1), (.int .u32 b0.1), (.int .u64 c.1), (.int .u32 c.2.1), (.int .u64 f.1), (.int .u32 f.2.1), (.int .u64 0), (.int .u32 0), (.string ⟨#[]⟩), (.int .u8 m.1), (.bool false), (.slice none 0 0)] HSx.out.z (by kernel_rfl) (by show 0 + 13 ≤ 13; decide) (by kernel_rfl) (by kernel_rfl) ?_; intro w19 hq hk hb; have HZ9 := Lib.hid hq; have HB9 := Lib.hid (hb _ _ HA.out.a HSx.out.b); clear hq hk hb))
      refine bodyPost_ret (results_ct rfl _ _ w.heap.size 30 _ (0, 0) _ rfl HZ9.out Try.underlying30 rfl (by kernel_rfl)) rfl ?_
      exact ⟨none, 0, by rw [HR2.out]; rfl, by rw [HR2.out]; exact Kd.C_nil _ _, by rw [HR2.out]; exact Nat.le_refl _, HB9.out⟩
  · have HR2 : Hid (readE s = (zE, 2)) := Lib.hid (by rw [HRD.out, if_neg he])
    have heb : (en == 0) = false := by simpa using he
    have heb2 : (en != 0) = true := by simpa using he
    go_wp2_with ((with_reducible refine gate_store (t := 30) (p := 2) (v := .tmp 90) rfl ?_); refine store_ev2 (P := Try.prog) rfl 30 (.tmp 2) (.tmp 90) rfl rfl w.heap.size 0 (.agg #[(.int .i64 0), (.int .u32 0), (.int .u32 0), (.int .u64 0), (.int .u32 0), (.int .u64 0), (.int .u32 0), (.int .u64 0), (.int .u32 0), (.string ⟨#[]⟩), (.int .u8 0), (.bool false), (.slice none 0 0)]) #[(.int .i64 0), (.int .u32 0), (.int .u32 0), (.int .u64 0), (.int .u32 0), (.int .u64 0), (.int .u32 0), (.int .u64 0), (.int .u32 0), (.string ⟨#[]⟩), (.int .u8 0), (.bool false), (.slice none 0 0)] rfl rfl rfl 30 _ #[(.int .i64 0), (.int .u32 0), (.int .u32 0), (.int .u64 0), (.int .u32 0), (.int .u64 0), (.int .u32 0), (.int .u64 0), (.int .u32 0), (.string ⟨#[]⟩), (.int .u8 0), (.bool false), (.slice none 0 0)] HS14.out.z (by kernel_rfl) (by show 0 + 13 ≤ 13; decide) (by kernel_rfl) (by kernel_rfl) ?_; intro w19 hq hk hb; have HZ9 := Lib.hid hq; have HB9 := Lib.hid (hb _ _ HA.out.a HS14.out.b); clear hq hk hb)
    refine bodyPost_ret (results_ct rfl _ _ w.heap.size 30 _ (0, 0) _ rfl HZ9.out Try.underlying30 rfl (by kernel_rfl)) rfl ?_
    exact ⟨none, 0, by rw [HR2.out]; rfl, by rw [HR2.out]; exact Kd.C_nil _ _, by rw [HR2.out]; exact Nat.le_refl _, HB9.out⟩
set_option maxRecDepth 100000 in
set_option maxHeartbeats 16000000 in
theorem read_4 (s : ByteArray) (hs : s.size ≤ 9223372036854775807) (w : World) (hk : (rdNum s 0 9).1 = 4) : Calls Try.prog 11 #[.string s] w (ReadP s w) := by
  have HX0 := Lib.hid (heap_alloc_new w (.cells #[(.int .i64 0), (.int .u32 0), (.int .u32 0), (.int .u64 0), (.int .u32 0), (.int .u64 0), (.int .u32 0), (.int .u64 0), (.int .u32 0), (.string ⟨#[]⟩), (.int .u8 0), (.bool false), (.slice none 0 0)] 30))
  have HB0 := Lib.hid (below_alloc' (Below.refl _ w) (.cells #[(.int .i64 0), (.int .u32 0), (.int .u32 0), (.int .u64 0), (.int .u32 0), (.int .u64 0), (.int .u32 0), (.int .u64 0), (.int .u32 0), (.string ⟨#[]⟩), (.int .u8 0), (.bool false), (.slice none 0 0)] 30))
  go_enter Try.func11, Try.ntmps11
  go_wp2_with fail
  refine (rnew s HB0.out).mono ?_
  rintro e w1 ⟨g, rfl, hI, hB, hb1, hge⟩
  have HX1 := Lib.hid ((hb1.block _ (lt_at2 HX0.out)).trans HX0.out)
  have HN2 : Hid (w.heap.size ≠ g) := Lib.hid (by have := lt_at2 HX0.out; omega)
  have HI1 := Lib.hid hI
  have HB1 := Lib.hid hB
  clear hI hB hb1 hge HX0 HB0
  go_wp2_with fail
  refine (rnumber w _ g s 0 9 (by decide) (by decide) HI1.out HB1.out).mono ?_
  rintro e w2 ⟨rfl, hl⟩
  have hkk := hk
  have za := rdNum_facts s 0 9 (by decide)
  obtain ⟨a, ha⟩ : ∃ x, x = rdNum s 0 9 := ⟨_, rfl⟩
  rw [← ha] at hl za hk ⊢
  have EA := Lib.hid ha
  have zaz := za.2.2
  rw [hk]
  have HK0 := Lib.hid hk
  clear ha hk hkk za
  have h2 := blk_keep HX1.out hl.2.2 HN2.out
  have h3 := heap_alloc_new w2 (.cells #[(.int .i64 0), (.int .u32 0), (.int .u32 0), (.int .u64 0), (.int .u32 0), (.int .u64 0), (.int .u32 0), (.int .u64 0), (.int .u32 0), (.string ⟨#[]⟩), (.int .u8 0), (.bool false), (.slice none 0 0)] 30)
  have hg1 := lt_at2 hl.1.1
  have h22 := lt_at2 h2
  have HA : Hid (PUt w g w.heap.size w2.heap.size) := Lib.hid ⟨Nat.le_refl _, by have := hl.2.1.size; omega, HN2.out, by omega, by omega⟩
  have HS1 : Hid (PSu w g w.heap.size w2.heap.size #[(.int .i64 0), (.int .u32 0), (.int .u32 0), (.int .u64 0), (.int .u32 0), (.int .u64 0), (.int .u32 0), (.int .u64 0), (.int .u32 0), (.string ⟨#[]⟩), (.int .u8 0), (.bool false), (.slice none 0 0)] a.2.1 a.2.2 #[(.int .i64 0), (.int .u32 0), (.int .u32 0), (.int .u64 0), (.int .u32 0), (.int .u64 0), (.int .u32 0), (.int .u64 0), (.int .u32 0), (.string ⟨#[]⟩), (.int .u8 0), (.bool false), (.slice none 0 0)] (w2.alloc (.cells #[(.int .i64 0), (.int .u32 0), (.int .u32 0), (.int .u64 0), (.int .u32 0), (.int .u64 0), (.int .u32 0), (.int .u64 0), (.int .u32 0), (.string ⟨#[]⟩), (.int .u8 0), (.bool false), (.slice none 0 0)] 30))) := Lib.hid ⟨hl.1.alloc _, below_alloc' hl.2.1 _, blk_alloc h2 _, h3⟩
  clear hl h2 h3 hg1 h22 HX1 HN2 HI1 HB1
  go_wp2_with ((with_reducible refine gate_store (t := 30) (p := 5) (v := .tmp 12) rfl ?_); refine store_ev2 (P := Try.prog) rfl 30 (.tmp 5) (.tmp 12) rfl rfl w2.heap.size 0 (.agg #[(.int .i64 4), (.int .u32 0), (.int .u32 0), (.int .u64 0), (.int .u32 0), (.int .u64 0), (.int .u32 0), (.int .u64 0), (.int .u32 0), (.string ⟨#[]⟩), (.int .u8 0), (.bool false), (.slice none 0 0)]) #[(.int .i64 4), (.int .u32 0), (.int .u32 0), (.int .u64 0), (.int .u32 0), (.int .u64 0), (.int .u32 0), (.int .u64 0), (.int .u32 0), (.string ⟨#[]⟩), (.int .u8 0), (.bool false), (.slice none 0 0)] rfl rfl rfl 30 _ #[(.int .i64 4), (.int .u32 0), (.int .u32 0), (.int .u64 0), (.int .u32 0), (.int .u64 0), (.int .u32 0), (.int .u64 0), (.int .u32 0), (.string ⟨#[]⟩), (.int .u8 0), (.bool false), (.slice none 0 0)] HS1.out.q (by kernel_rfl) (by show 0 + 13 ≤ 13; decide) (by kernel_rfl) (by kernel_rfl) ?_; intro w2s hq hk hb; have HS2 := Lib.hid (HS1.out.store HA.out hq hk hb); have x0 := (blk_cell HS2.out.q 0).trans (show _ = some (.int .i64 4) from rfl); clear hq hk hb)
  clear HS1
  generalize w2.heap.size = b3 at *
  refine (fieldsB_calls 4 9 (by rfl) _).mono ?_
  rintro e w3 ⟨rfl, hb⟩
  have HS3 := Lib.hid (HS2.out.below hb)
  clear hb HS2 x0
  have b1 : bits .and .i64 9 1 = 1 := by kernel_rfl
  have b2 : bits .and .i64 9 2 = 0 := by kernel_rfl
  have b4 : bits .and .i64 9 4 = 0 := by kernel_rfl
  have b8 : bits .and .i64 9 8 = 8 := by kernel_rfl
  have b16 : bits .and .i64 9 16 = 0 := by kernel_rfl
  have b32 : bits .and .i64 9 32 = 0 := by kernel_rfl
  have b64 : bits .and .i64 9 64 = 0 := by kernel_rfl
  have b128 : bits .and .i64 9 128 = 0 := by kernel_rfl
  have b256 : bits .and .i64 9 256 = 0 := by kernel_rfl
  go_wp2_with fail
  refine (rnumber w _ g _ _ 4294967295 (by decide) (by decide) HS3.out.i HS3.out.b).mono ?_
  rintro e w4c ⟨rfl, hl⟩
  have zb := rdNum_facts a.2.1 a.2.2 4294967295 (by decide)
  obtain ⟨b, hb⟩ : ∃ x, x = rdNum a.2.1 a.2.2 4294967295 := ⟨_, rfl⟩
  rw [← hb] at hl zb ⊢
  have EB := Lib.hid hb
  clear hb
  have HS4 := Lib.hid (HS3.out.call HA.out hl)
  clear hl HS3 
  have hwb : b.1 % 4294967296 = b.1 := Int.emod_eq_of_lt zb.1 (by omega)
  go_wp2_with ((with_reducible refine gate_store (t := 22) (p := 23) (v := .tmp 21) rfl ?_); refine store_ev2 (P := Try.prog) rfl 22 (.tmp 23) (.tmp 21) rfl rfl b3 1 (.int .u32 b.1) #[(.int .u32 b.1)] rfl rfl rfl 30 _ #[(.int .i64 4), (.int .u32 b.1), (.int .u32 0), (.int .u64 0), (.int .u32 0), (.int .u64 0), (.int .u32 0), (.int .u64 0), (.int .u32 0), (.string ⟨#[]⟩), (.int .u8 0), (.bool false), (.slice none 0 0)] HS4.out.q (by kernel_rfl) (by show 1 + 1 ≤ 13; decide) (by kernel_rfl) (by kernel_rfl) ?_; intro w5s hq hk hb; have HS5 := Lib.hid (HS4.out.store HA.out hq hk hb); clear hq hk hb)
  clear HS4 
  refine (rnumber w _ g _ _ 4294967295 (by decide) (by decide) HS5.out.i HS5.out.b).mono ?_
  rintro e w6c ⟨rfl, hl⟩
  have zb0 := rdNum_facts b.2.1 b.2.2 4294967295 (by decide)
  obtain ⟨b0, hb0⟩ : ∃ x, x = rdNum b.2.1 b.2.2 4294967295 := ⟨_, rfl⟩
  rw [← hb0] at hl zb0 ⊢
  have EB0 := Lib.hid hb0
  clear hb0
  have HS6 := Lib.hid (HS5.out.call HA.out hl)
  clear hl HS5 
  have hwb0 : b0.1 % 4294967296 = b0.1 := Int.emod_eq_of_lt zb0.1 (by omega)
  go_wp2_with ((with_reducible refine gate_store (t := 22) (p := 28) (v := .tmp 26) rfl ?_); refine store_ev2 (P := Try.prog) rfl 22 (.tmp 28) (.tmp 26) rfl rfl b3 2 (.int .u32 b0.1) #[(.int .u32 b0.1)] rfl rfl rfl 30 _ #[(.int .i64 4), (.int .u32 b.1), (.int .u32 b0.1), (.int .u64 0), (.int .u32 0), (.int .u64 0), (.int .u32 0), (.int .u64 0), (.int .u32 0), (.string ⟨#[]⟩), (.int .u8 0), (.bool false), (.slice none 0 0)] HS6.out.q (by kernel_rfl) (by show 2 + 1 ≤ 13; decide) (by kernel_rfl) (by kernel_rfl) ?_; intro w7s hq hk hb; have HS7 := Lib.hid (HS6.out.store HA.out hq hk hb); clear hq hk hb)
  clear HS6 
  refine (rstamp HS7.out.i HS7.out.b).mono ?_
  rintro e w8c ⟨rfl, hl⟩
  have zf := stamp_sz b0.2.1 b0.2.2
  obtain ⟨f, hf⟩ : ∃ x, x = rdStamp b0.2.1 b0.2.2 := ⟨_, rfl⟩
  rw [← hf] at hl zf ⊢
  have EF := Lib.hid hf
  clear hf
  have HS8 := Lib.hid (HS7.out.call HA.out hl)
  clear hl HS7 
  go_wp2_with ((with_reducible refine gate_store (t := 27) (p := 46) (v := .tmp 45) rfl ?_); refine store_ev2 (P := Try.prog) rfl 27 (.tmp 46) (.tmp 45) rfl rfl b3 5 (.agg #[.int .u64 f.1, .int .u32 f.2.1]) #[(.int .u64 f.1), (.int .u32 f.2.1)] rfl rfl rfl 30 _ #[(.int .i64 4), (.int .u32 b.1), (.int .u32 b0.1), (.int .u64 0), (.int .u32 0), (.int .u64 f.1), (.int .u32 f.2.1), (.int .u64 0), (.int .u32 0), (.string ⟨#[]⟩), (.int .u8 0), (.bool false), (.slice none 0 0)] HS8.out.q (by kernel_rfl) (by show 5 + 2 ≤ 13; decide) (by kernel_rfl) (by kernel_rfl) ?_; intro w9s hq hk hb; have HS9 := Lib.hid (HS8.out.store HA.out hq hk hb); clear hq hk hb)
  clear HS8 
  refine (rend HS9.out.i HS9.out.b).mono ?_
  rintro e w10c ⟨rfl, hl⟩
  have HS10 := Lib.hid (HS9.out.call HA.out hl)
  clear hl HS9 
  obtain ⟨en, hen⟩ : ∃ en, en = rdEnd f.2.2.1 f.2.2.2 := ⟨_, rfl⟩
  rw [← hen]
  have HEN := Lib.hid hen
  clear hen
  have HRD : Hid (readE s = if en = 0 then (if rightE ⟨4, b.1, b0.1, 0, 0, f.1, f.2.1, 0, 0, ⟨#[]⟩, 0, false, []⟩ = true then (⟨4, b.1, b0.1, 0, 0, f.1, f.2.1, 0, 0, ⟨#[]⟩, 0, false, []⟩, 0) else (zE, 2)) else (zE, 2)) := Lib.hid (by
    have hp : rdE s = (⟨4, b.1, b0.1, 0, 0, f.1, f.2.1, 0, 0, ⟨#[]⟩, 0, false, []⟩, f.2.2.1, f.2.2.2) := by
      unfold rdE rdTail orX rdX
      rw [← EA.out, HK0.out]
      simp [hB, hS, hM, hA, hW, hT, hD, lstR, ← EB.out, ← EB0.out, ← EF.out]
    unfold readE
    rw [hp, ← HEN.out])
  have HOK : Hid (EOk ⟨4, b.1, b0.1, 0, 0, f.1, f.2.1, 0, 0, ⟨#[]⟩, 0, false, []⟩) := Lib.hid (by
    have hp : (rdTail 4 a.2.1 a.2.2).1 = ⟨4, b.1, b0.1, 0, 0, f.1, f.2.1, 0, 0, ⟨#[]⟩, 0, false, []⟩ := by
      unfold rdTail orX rdX
      simp [hB, hS, hM, hA, hW, hT, hD, lstR, ← EB.out, ← EB0.out, ← EF.out]
    rw [← hp]
    exact tailOk _ (by decide) _ _)
  rcases (show en = 0 ∨ en ≠ 0 from by omega) with he | he
  · subst he
    cases hri : rightE ⟨4, b.1, b0.1, 0, 0, f.1, f.2.1, 0, 0, ⟨#[]⟩, 0, false, []⟩ with
    | false =>
      have HR2 : Hid (readE s = (zE, 2)) := Lib.hid (by rw [HRD.out, if_pos rfl, if_neg (by rw [hri]; decide)])
      have HRI := Lib.hid ((right_calls ⟨4, b.1, b0.1, 0, 0, f.1, f.2.1, 0, 0, ⟨#[]⟩, 0, false, []⟩ none 0 w10c (Kd.C_nil _ _) HOK.out.ws).mono fun r w' (h : r = .returned (.bool (rightE ⟨4, b.1, b0.1, 0, 0, f.1, f.2.1, 0, 0, ⟨#[]⟩, 0, false, []⟩)) ∧ Below w10c.heap.size w10c w') => (⟨by rw [h.1, hri], h.2⟩ : r = .returned (.bool false) ∧ Below w10c.heap.size w10c w'))
      have HRV := Lib.hid hri
      clear hri
      go_wp2_with (first | ((with_reducible refine gate_dst (N := 86) rfl ?_); refine wpList_load_row rfl 30 (.tmp 5) rfl b3 rfl 30 _ (0, 0) _ HS10.out.q Try.underlying30 rfl (by kernel_rfl) ?_) | ((with_reducible refine gate_dst (N := 86) rfl ?_); refine gate_guard (by rfl) ?_; refine wpList_load_row rfl 30 (.tmp 5) rfl b3 rfl 30 _ (0, 0) _ HS10.out.q Try.underlying30 rfl (by kernel_rfl) ?_))
      refine HRI.out.mono ?_
      rintro e wr ⟨rfl, hBr⟩
      have HSr := Lib.hid (HS10.out.below hBr)
      clear hBr
      go_wp2_with ((with_reducible refine gate_store (t := 30) (p := 2) (v := .tmp 90) rfl ?_); refine store_ev2 (P := Try.prog) rfl 30 (.tmp 2) (.tmp 90) rfl rfl w.heap.size 0 (.agg #[(.int .i64 0), (.int .u32 0), (.int .u32 0), (.int .u64 0), (.int .u32 0), (.int .u64 0), (.int .u32 0), (.int .u64 0), (.int .u32 0), (.string ⟨#[]⟩), (.int .u8 0), (.bool false), (.slice none 0 0)]) #[(.int .i64 0), (.int .u32 0), (.int .u32 0), (.int .u64 0), (.int .u32 0), (.int .u64 0), (.int .u32 0), (.int .u64 0), (.int .u32 0), (.string ⟨#[]⟩), (.int .u8 0), (.bool false), (.slice none 0 0)] rfl rfl rfl 30 _ #[(.int .i64 0), (.int .u32 0), (.int .u32 0), (.int .u64 0), (.int .u32 0), (.int .u64 0), (.int .u32 0), (.int .u64 0), (.int .u32 0), (.string ⟨#[]⟩), (.int .u8 0), (.bool false), (.slice none 0 0)] HSr.out.z (by kernel_rfl) (by show 0 + 13 ≤ 13; decide) (by kernel_rfl) (by kernel_rfl) ?_; intro w19 hq hk hb; have HZ9 := Lib.hid hq; have HB9 := Lib.hid (hb _ _ HA.out.a HSr.out.b); clear hq hk hb)
      refine bodyPost_ret (results_ct rfl _ _ w.heap.size 30 _ (0, 0) _ rfl HZ9.out Try.underlying30 rfl (by kernel_rfl)) rfl ?_
      exact ⟨none, 0, by rw [HR2.out]; rfl, by rw [HR2.out]; exact Kd.C_nil _ _, by rw [HR2.out]; exact Nat.le_refl _, HB9.out⟩
    | true =>
      have HR2 : Hid (readE s = (⟨4, b.1, b0.1, 0, 0, f.1, f.2.1, 0, 0, ⟨#[]⟩, 0, false, []⟩, 0)) := Lib.hid (by rw [HRD.out, if_pos rfl, if_pos hri])
      have HRI := Lib.hid ((right_calls ⟨4, b.1, b0.1, 0, 0, f.1, f.2.1, 0, 0, ⟨#[]⟩, 0, false, []⟩ none 0 w10c (Kd.C_nil _ _) HOK.out.ws).mono fun r w' (h : r = .returned (.bool (rightE ⟨4, b.1, b0.1, 0, 0, f.1, f.2.1, 0, 0, ⟨#[]⟩, 0, false, []⟩)) ∧ Below w10c.heap.size w10c w') => (⟨by rw [h.1, hri], h.2⟩ : r = .returned (.bool true) ∧ Below w10c.heap.size w10c w'))
      have HRV := Lib.hid hri
      clear hri
      go_wp2_with (first | ((with_reducible refine gate_dst (N := 86) rfl ?_); refine wpList_load_row rfl 30 (.tmp 5) rfl b3 rfl 30 _ (0, 0) _ HS10.out.q Try.underlying30 rfl (by kernel_rfl) ?_) | ((with_reducible refine gate_dst (N := 86) rfl ?_); refine gate_guard (by rfl) ?_; refine wpList_load_row rfl 30 (.tmp 5) rfl b3 rfl 30 _ (0, 0) _ HS10.out.q Try.underlying30 rfl (by kernel_rfl) ?_))
      refine HRI.out.mono ?_
      rintro e wr ⟨rfl, hBr⟩
      have HSr := Lib.hid (HS10.out.below hBr)
      clear hBr
      have x12 := (blk_cell HSr.out.q 12).trans (show _ = some (.slice none 0 0) from rfl)
      go_wp2_with fail
      refine (clip_calls none 0 0 _ (Nat.le_refl _) (by decide) (fun _ => ⟨rfl, rfl⟩)).mono ?_
      rintro e wx ⟨rfl, hwx⟩
      subst hwx
      clear x12
      go_wp2_with (first | ((with_reducible refine gate_store (t := 28) (p := 94) (v := .tmp 93) rfl ?_); refine store_ev2 (P := Try.prog) rfl 28 (.tmp 94) (.tmp 93) rfl rfl b3 12 (.slice none 0 0) #[(.slice none 0 0)] rfl rfl rfl 30 _ #[(.int .i64 4), (.int .u32 b.1), (.int .u32 b0.1), (.int .u64 0), (.int .u32 0), (.int .u64 f.1), (.int .u32 f.2.1), (.int .u64 0), (.int .u32 0), (.string ⟨#[]⟩), (.int .u8 0), (.bool false), (.slice none 0 0)] HSr.out.q (by kernel_rfl) (by show 12 + 1 ≤ 13; decide) (by kernel_rfl) (by kernel_rfl) ?_; intro wy hq hk hb; have HSx := Lib.hid (HSr.out.store HA.out hq hk hb); clear hq hk hb) | ((with_reducible refine gate_dst (N := 95) rfl ?_); refine wpList_load_row rfl 30 (.tmp 5) rfl b3 rfl 30 _ (0, 0) _ HSx.out.q Try.underlying30 rfl (by kernel_rfl) ?_) | ((with_reducible refine gate_store (t := 30) (p := 2) (v := .tmp 95) rfl ?_); refine store_ev2 (P := Try.prog) rfl 30 (.tmp 2) (.tmp 95) rfl rfl w.heap.size 0 (.agg #[(.int .i64 4), (.int .u32 b.1), (.int .u32 b0.1), (.int .u64 0), (.int .u32 0), (.int .u64 f.1), (.int .u32 f.2.1), (.int .u64 0), (.int .u32 0), (.string ⟨#[]⟩), (.int .u8 0), (.bool false), (.slice none 0 0)]) #[(.int .i64 4), (.int .u32 b.1), (.int .u32 b0.1), (.int .u64 0), (.int .u32 0), (.int .u64 f.1), (.int .u32 f.2.1), (.int .u64 0), (.int .u32 0), (.string ⟨#[]⟩), (.int .u8 0), (.bool false), (.slice none 0 0)] rfl rfl rfl 30 _ #[(.int .i64 4), (.int .u32 b.1), (.int .u32 b0.1), (.int .u64 0), (.int .u32 0), (.int .u64 f.1), (.int .u32 f.2.1), (.int .u64 0), (.int .u32 0), (.string ⟨#[]⟩), (.int .u8 0), (.bool false), (.slice none 0 0)] HSx.out.z (by kernel_rfl) (by show 0 + 13 ≤ 13; decide) (by kernel_rfl) (by kernel_rfl) ?_; intro w19 hq hk hb; have HZ9 := Lib.hid hq; have HB9 := Lib.hid (hb _ _ HA.out.a HSx.out.b); clear hq hk hb))
      refine bodyPost_ret (results_ct rfl _ _ w.heap.size 30 _ (0, 0) _ rfl HZ9.out Try.underlying30 rfl (by kernel_rfl)) rfl ?_
      exact ⟨none, 0, by rw [HR2.out]; rfl, by rw [HR2.out]; exact Kd.C_nil _ _, by rw [HR2.out]; exact Nat.le_refl _, HB9.out⟩
  · have HR2 : Hid (readE s = (zE, 2)) := Lib.hid (by rw [HRD.out, if_neg he])
    have heb : (en == 0) = false := by simpa using he
    have heb2 : (en != 0) = true := by simpa using he
    go_wp2_with ((with_reducible refine gate_store (t := 30) (p := 2) (v := .tmp 90) rfl ?_); refine store_ev2 (P := Try.prog) rfl 30 (.tmp 2) (.tmp 90) rfl rfl w.heap.size 0 (.agg #[(.int .i64 0), (.int .u32 0), (.int .u32 0), (.int .u64 0), (.int .u32 0), (.int .u64 0), (.int .u32 0), (.int .u64 0), (.int .u32 0), (.string ⟨#[]⟩), (.int .u8 0), (.bool false), (.slice none 0 0)]) #[(.int .i64 0), (.int .u32 0), (.int .u32 0), (.int .u64 0), (.int .u32 0), (.int .u64 0), (.int .u32 0), (.int .u64 0), (.int .u32 0), (.string ⟨#[]⟩), (.int .u8 0), (.bool false), (.slice none 0 0)] rfl rfl rfl 30 _ #[(.int .i64 0), (.int .u32 0), (.int .u32 0), (.int .u64 0), (.int .u32 0), (.int .u64 0), (.int .u32 0), (.int .u64 0), (.int .u32 0), (.string ⟨#[]⟩), (.int .u8 0), (.bool false), (.slice none 0 0)] HS10.out.z (by kernel_rfl) (by show 0 + 13 ≤ 13; decide) (by kernel_rfl) (by kernel_rfl) ?_; intro w19 hq hk hb; have HZ9 := Lib.hid hq; have HB9 := Lib.hid (hb _ _ HA.out.a HS10.out.b); clear hq hk hb)
    refine bodyPost_ret (results_ct rfl _ _ w.heap.size 30 _ (0, 0) _ rfl HZ9.out Try.underlying30 rfl (by kernel_rfl)) rfl ?_
    exact ⟨none, 0, by rw [HR2.out]; rfl, by rw [HR2.out]; exact Kd.C_nil _ _, by rw [HR2.out]; exact Nat.le_refl _, HB9.out⟩
set_option maxRecDepth 100000 in
set_option maxHeartbeats 16000000 in
theorem read_5 (s : ByteArray) (hs : s.size ≤ 9223372036854775807) (w : World) (hk : (rdNum s 0 9).1 = 5) : Calls Try.prog 11 #[.string s] w (ReadP s w) := by
  have HX0 := Lib.hid (heap_alloc_new w (.cells #[(.int .i64 0), (.int .u32 0), (.int .u32 0), (.int .u64 0), (.int .u32 0), (.int .u64 0), (.int .u32 0), (.int .u64 0), (.int .u32 0), (.string ⟨#[]⟩), (.int .u8 0), (.bool false), (.slice none 0 0)] 30))
  have HB0 := Lib.hid (below_alloc' (Below.refl _ w) (.cells #[(.int .i64 0), (.int .u32 0), (.int .u32 0), (.int .u64 0), (.int .u32 0), (.int .u64 0), (.int .u32 0), (.int .u64 0), (.int .u32 0), (.string ⟨#[]⟩), (.int .u8 0), (.bool false), (.slice none 0 0)] 30))
  go_enter Try.func11, Try.ntmps11
  go_wp2_with fail
  refine (rnew s HB0.out).mono ?_
  rintro e w1 ⟨g, rfl, hI, hB, hb1, hge⟩
  have HX1 := Lib.hid ((hb1.block _ (lt_at2 HX0.out)).trans HX0.out)
  have HN2 : Hid (w.heap.size ≠ g) := Lib.hid (by have := lt_at2 HX0.out; omega)
  have HI1 := Lib.hid hI
  have HB1 := Lib.hid hB
  clear hI hB hb1 hge HX0 HB0
  go_wp2_with fail
  refine (rnumber w _ g s 0 9 (by decide) (by decide) HI1.out HB1.out).mono ?_
  rintro e w2 ⟨rfl, hl⟩
  have hkk := hk
  have za := rdNum_facts s 0 9 (by decide)
  obtain ⟨a, ha⟩ : ∃ x, x = rdNum s 0 9 := ⟨_, rfl⟩
  rw [← ha] at hl za hk ⊢
  have EA := Lib.hid ha
  have zaz := za.2.2
  rw [hk]
  have HK0 := Lib.hid hk
  clear ha hk hkk za
  have h2 := blk_keep HX1.out hl.2.2 HN2.out
  have h3 := heap_alloc_new w2 (.cells #[(.int .i64 0), (.int .u32 0), (.int .u32 0), (.int .u64 0), (.int .u32 0), (.int .u64 0), (.int .u32 0), (.int .u64 0), (.int .u32 0), (.string ⟨#[]⟩), (.int .u8 0), (.bool false), (.slice none 0 0)] 30)
  have hg1 := lt_at2 hl.1.1
  have h22 := lt_at2 h2
  have HA : Hid (PUt w g w.heap.size w2.heap.size) := Lib.hid ⟨Nat.le_refl _, by have := hl.2.1.size; omega, HN2.out, by omega, by omega⟩
  have HS1 : Hid (PSu w g w.heap.size w2.heap.size #[(.int .i64 0), (.int .u32 0), (.int .u32 0), (.int .u64 0), (.int .u32 0), (.int .u64 0), (.int .u32 0), (.int .u64 0), (.int .u32 0), (.string ⟨#[]⟩), (.int .u8 0), (.bool false), (.slice none 0 0)] a.2.1 a.2.2 #[(.int .i64 0), (.int .u32 0), (.int .u32 0), (.int .u64 0), (.int .u32 0), (.int .u64 0), (.int .u32 0), (.int .u64 0), (.int .u32 0), (.string ⟨#[]⟩), (.int .u8 0), (.bool false), (.slice none 0 0)] (w2.alloc (.cells #[(.int .i64 0), (.int .u32 0), (.int .u32 0), (.int .u64 0), (.int .u32 0), (.int .u64 0), (.int .u32 0), (.int .u64 0), (.int .u32 0), (.string ⟨#[]⟩), (.int .u8 0), (.bool false), (.slice none 0 0)] 30))) := Lib.hid ⟨hl.1.alloc _, below_alloc' hl.2.1 _, blk_alloc h2 _, h3⟩
  clear hl h2 h3 hg1 h22 HX1 HN2 HI1 HB1
  go_wp2_with ((with_reducible refine gate_store (t := 30) (p := 5) (v := .tmp 12) rfl ?_); refine store_ev2 (P := Try.prog) rfl 30 (.tmp 5) (.tmp 12) rfl rfl w2.heap.size 0 (.agg #[(.int .i64 5), (.int .u32 0), (.int .u32 0), (.int .u64 0), (.int .u32 0), (.int .u64 0), (.int .u32 0), (.int .u64 0), (.int .u32 0), (.string ⟨#[]⟩), (.int .u8 0), (.bool false), (.slice none 0 0)]) #[(.int .i64 5), (.int .u32 0), (.int .u32 0), (.int .u64 0), (.int .u32 0), (.int .u64 0), (.int .u32 0), (.int .u64 0), (.int .u32 0), (.string ⟨#[]⟩), (.int .u8 0), (.bool false), (.slice none 0 0)] rfl rfl rfl 30 _ #[(.int .i64 5), (.int .u32 0), (.int .u32 0), (.int .u64 0), (.int .u32 0), (.int .u64 0), (.int .u32 0), (.int .u64 0), (.int .u32 0), (.string ⟨#[]⟩), (.int .u8 0), (.bool false), (.slice none 0 0)] HS1.out.q (by kernel_rfl) (by show 0 + 13 ≤ 13; decide) (by kernel_rfl) (by kernel_rfl) ?_; intro w2s hq hk hb; have HS2 := Lib.hid (HS1.out.store HA.out hq hk hb); have x0 := (blk_cell HS2.out.q 0).trans (show _ = some (.int .i64 5) from rfl); clear hq hk hb)
  clear HS1
  generalize w2.heap.size = b3 at *
  refine (fieldsB_calls 5 3 (by rfl) _).mono ?_
  rintro e w3 ⟨rfl, hb⟩
  have HS3 := Lib.hid (HS2.out.below hb)
  clear hb HS2 x0
  have b1 : bits .and .i64 3 1 = 1 := by kernel_rfl
  have b2 : bits .and .i64 3 2 = 2 := by kernel_rfl
  have b4 : bits .and .i64 3 4 = 0 := by kernel_rfl
  have b8 : bits .and .i64 3 8 = 0 := by kernel_rfl
  have b16 : bits .and .i64 3 16 = 0 := by kernel_rfl
  have b32 : bits .and .i64 3 32 = 0 := by kernel_rfl
  have b64 : bits .and .i64 3 64 = 0 := by kernel_rfl
  have b128 : bits .and .i64 3 128 = 0 := by kernel_rfl
  have b256 : bits .and .i64 3 256 = 0 := by kernel_rfl
  go_wp2_with fail
  refine (rnumber w _ g _ _ 4294967295 (by decide) (by decide) HS3.out.i HS3.out.b).mono ?_
  rintro e w4c ⟨rfl, hl⟩
  have zb := rdNum_facts a.2.1 a.2.2 4294967295 (by decide)
  obtain ⟨b, hb⟩ : ∃ x, x = rdNum a.2.1 a.2.2 4294967295 := ⟨_, rfl⟩
  rw [← hb] at hl zb ⊢
  have EB := Lib.hid hb
  clear hb
  have HS4 := Lib.hid (HS3.out.call HA.out hl)
  clear hl HS3 
  have hwb : b.1 % 4294967296 = b.1 := Int.emod_eq_of_lt zb.1 (by omega)
  go_wp2_with ((with_reducible refine gate_store (t := 22) (p := 23) (v := .tmp 21) rfl ?_); refine store_ev2 (P := Try.prog) rfl 22 (.tmp 23) (.tmp 21) rfl rfl b3 1 (.int .u32 b.1) #[(.int .u32 b.1)] rfl rfl rfl 30 _ #[(.int .i64 5), (.int .u32 b.1), (.int .u32 0), (.int .u64 0), (.int .u32 0), (.int .u64 0), (.int .u32 0), (.int .u64 0), (.int .u32 0), (.string ⟨#[]⟩), (.int .u8 0), (.bool false), (.slice none 0 0)] HS4.out.q (by kernel_rfl) (by show 1 + 1 ≤ 13; decide) (by kernel_rfl) (by kernel_rfl) ?_; intro w5s hq hk hb; have HS5 := Lib.hid (HS4.out.store HA.out hq hk hb); clear hq hk hb)
  clear HS4 
  refine (rnumber w _ g _ _ 4294967295 (by decide) (by decide) HS5.out.i HS5.out.b).mono ?_
  rintro e w6c ⟨rfl, hl⟩
  have zb0 := rdNum_facts b.2.1 b.2.2 4294967295 (by decide)
  obtain ⟨b0, hb0⟩ : ∃ x, x = rdNum b.2.1 b.2.2 4294967295 := ⟨_, rfl⟩
  rw [← hb0] at hl zb0 ⊢
  have EB0 := Lib.hid hb0
  clear hb0
  have HS6 := Lib.hid (HS5.out.call HA.out hl)
  clear hl HS5 
  have hwb0 : b0.1 % 4294967296 = b0.1 := Int.emod_eq_of_lt zb0.1 (by omega)
  go_wp2_with ((with_reducible refine gate_store (t := 22) (p := 28) (v := .tmp 26) rfl ?_); refine store_ev2 (P := Try.prog) rfl 22 (.tmp 28) (.tmp 26) rfl rfl b3 2 (.int .u32 b0.1) #[(.int .u32 b0.1)] rfl rfl rfl 30 _ #[(.int .i64 5), (.int .u32 b.1), (.int .u32 b0.1), (.int .u64 0), (.int .u32 0), (.int .u64 0), (.int .u32 0), (.int .u64 0), (.int .u32 0), (.string ⟨#[]⟩), (.int .u8 0), (.bool false), (.slice none 0 0)] HS6.out.q (by kernel_rfl) (by show 2 + 1 ≤ 13; decide) (by kernel_rfl) (by kernel_rfl) ?_; intro w7s hq hk hb; have HS7 := Lib.hid (HS6.out.store HA.out hq hk hb); clear hq hk hb)
  clear HS6 
  refine (rstamp HS7.out.i HS7.out.b).mono ?_
  rintro e w8c ⟨rfl, hl⟩
  have zc := stamp_sz b0.2.1 b0.2.2
  obtain ⟨c, hc⟩ : ∃ x, x = rdStamp b0.2.1 b0.2.2 := ⟨_, rfl⟩
  rw [← hc] at hl zc ⊢
  have EC := Lib.hid hc
  clear hc
  have HS8 := Lib.hid (HS7.out.call HA.out hl)
  clear hl HS7 
  go_wp2_with ((with_reducible refine gate_store (t := 27) (p := 34) (v := .tmp 33) rfl ?_); refine store_ev2 (P := Try.prog) rfl 27 (.tmp 34) (.tmp 33) rfl rfl b3 3 (.agg #[.int .u64 c.1, .int .u32 c.2.1]) #[(.int .u64 c.1), (.int .u32 c.2.1)] rfl rfl rfl 30 _ #[(.int .i64 5), (.int .u32 b.1), (.int .u32 b0.1), (.int .u64 c.1), (.int .u32 c.2.1), (.int .u64 0), (.int .u32 0), (.int .u64 0), (.int .u32 0), (.string ⟨#[]⟩), (.int .u8 0), (.bool false), (.slice none 0 0)] HS8.out.q (by kernel_rfl) (by show 3 + 2 ≤ 13; decide) (by kernel_rfl) (by kernel_rfl) ?_; intro w9s hq hk hb; have HS9 := Lib.hid (HS8.out.store HA.out hq hk hb); clear hq hk hb)
  clear HS8 
  refine (rend HS9.out.i HS9.out.b).mono ?_
  rintro e w10c ⟨rfl, hl⟩
  have HS10 := Lib.hid (HS9.out.call HA.out hl)
  clear hl HS9 
  obtain ⟨en, hen⟩ : ∃ en, en = rdEnd c.2.2.1 c.2.2.2 := ⟨_, rfl⟩
  rw [← hen]
  have HEN := Lib.hid hen
  clear hen
  have HRD : Hid (readE s = if en = 0 then (if rightE ⟨5, b.1, b0.1, c.1, c.2.1, 0, 0, 0, 0, ⟨#[]⟩, 0, false, []⟩ = true then (⟨5, b.1, b0.1, c.1, c.2.1, 0, 0, 0, 0, ⟨#[]⟩, 0, false, []⟩, 0) else (zE, 2)) else (zE, 2)) := Lib.hid (by
    have hp : rdE s = (⟨5, b.1, b0.1, c.1, c.2.1, 0, 0, 0, 0, ⟨#[]⟩, 0, false, []⟩, c.2.2.1, c.2.2.2) := by
      unfold rdE rdTail orX rdX
      rw [← EA.out, HK0.out]
      simp [hB, hS, hM, hA, hW, hT, hD, lstR, ← EB.out, ← EB0.out, ← EC.out]
    unfold readE
    rw [hp, ← HEN.out])
  have HOK : Hid (EOk ⟨5, b.1, b0.1, c.1, c.2.1, 0, 0, 0, 0, ⟨#[]⟩, 0, false, []⟩) := Lib.hid (by
    have hp : (rdTail 5 a.2.1 a.2.2).1 = ⟨5, b.1, b0.1, c.1, c.2.1, 0, 0, 0, 0, ⟨#[]⟩, 0, false, []⟩ := by
      unfold rdTail orX rdX
      simp [hB, hS, hM, hA, hW, hT, hD, lstR, ← EB.out, ← EB0.out, ← EC.out]
    rw [← hp]
    exact tailOk _ (by decide) _ _)
  rcases (show en = 0 ∨ en ≠ 0 from by omega) with he | he
  · subst he
    cases hri : rightE ⟨5, b.1, b0.1, c.1, c.2.1, 0, 0, 0, 0, ⟨#[]⟩, 0, false, []⟩ with
    | false =>
      have HR2 : Hid (readE s = (zE, 2)) := Lib.hid (by rw [HRD.out, if_pos rfl, if_neg (by rw [hri]; decide)])
      have HRI := Lib.hid ((right_calls ⟨5, b.1, b0.1, c.1, c.2.1, 0, 0, 0, 0, ⟨#[]⟩, 0, false, []⟩ none 0 w10c (Kd.C_nil _ _) HOK.out.ws).mono fun r w' (h : r = .returned (.bool (rightE ⟨5, b.1, b0.1, c.1, c.2.1, 0, 0, 0, 0, ⟨#[]⟩, 0, false, []⟩)) ∧ Below w10c.heap.size w10c w') => (⟨by rw [h.1, hri], h.2⟩ : r = .returned (.bool false) ∧ Below w10c.heap.size w10c w'))
      have HRV := Lib.hid hri
      clear hri
      go_wp2_with (first | ((with_reducible refine gate_dst (N := 86) rfl ?_); refine wpList_load_row rfl 30 (.tmp 5) rfl b3 rfl 30 _ (0, 0) _ HS10.out.q Try.underlying30 rfl (by kernel_rfl) ?_) | ((with_reducible refine gate_dst (N := 86) rfl ?_); refine gate_guard (by rfl) ?_; refine wpList_load_row rfl 30 (.tmp 5) rfl b3 rfl 30 _ (0, 0) _ HS10.out.q Try.underlying30 rfl (by kernel_rfl) ?_))
      refine HRI.out.mono ?_
      rintro e wr ⟨rfl, hBr⟩
      have HSr := Lib.hid (HS10.out.below hBr)
      clear hBr
      go_wp2_with ((with_reducible refine gate_store (t := 30) (p := 2) (v := .tmp 90) rfl ?_); refine store_ev2 (P := Try.prog) rfl 30 (.tmp 2) (.tmp 90) rfl rfl w.heap.size 0 (.agg #[(.int .i64 0), (.int .u32 0), (.int .u32 0), (.int .u64 0), (.int .u32 0), (.int .u64 0), (.int .u32 0), (.int .u64 0), (.int .u32 0), (.string ⟨#[]⟩), (.int .u8 0), (.bool false), (.slice none 0 0)]) #[(.int .i64 0), (.int .u32 0), (.int .u32 0), (.int .u64 0), (.int .u32 0), (.int .u64 0), (.int .u32 0), (.int .u64 0), (.int .u32 0), (.string ⟨#[]⟩), (.int .u8 0), (.bool false), (.slice none 0 0)] rfl rfl rfl 30 _ #[(.int .i64 0), (.int .u32 0), (.int .u32 0), (.int .u64 0), (.int .u32 0), (.int .u64 0), (.int .u32 0), (.int .u64 0), (.int .u32 0), (.string ⟨#[]⟩), (.int .u8 0), (.bool false), (.slice none 0 0)] HSr.out.z (by kernel_rfl) (by show 0 + 13 ≤ 13; decide) (by kernel_rfl) (by kernel_rfl) ?_; intro w19 hq hk hb; have HZ9 := Lib.hid hq; have HB9 := Lib.hid (hb _ _ HA.out.a HSr.out.b); clear hq hk hb)
      refine bodyPost_ret (results_ct rfl _ _ w.heap.size 30 _ (0, 0) _ rfl HZ9.out Try.underlying30 rfl (by kernel_rfl)) rfl ?_
      exact ⟨none, 0, by rw [HR2.out]; rfl, by rw [HR2.out]; exact Kd.C_nil _ _, by rw [HR2.out]; exact Nat.le_refl _, HB9.out⟩
    | true =>
      have HR2 : Hid (readE s = (⟨5, b.1, b0.1, c.1, c.2.1, 0, 0, 0, 0, ⟨#[]⟩, 0, false, []⟩, 0)) := Lib.hid (by rw [HRD.out, if_pos rfl, if_pos hri])
      have HRI := Lib.hid ((right_calls ⟨5, b.1, b0.1, c.1, c.2.1, 0, 0, 0, 0, ⟨#[]⟩, 0, false, []⟩ none 0 w10c (Kd.C_nil _ _) HOK.out.ws).mono fun r w' (h : r = .returned (.bool (rightE ⟨5, b.1, b0.1, c.1, c.2.1, 0, 0, 0, 0, ⟨#[]⟩, 0, false, []⟩)) ∧ Below w10c.heap.size w10c w') => (⟨by rw [h.1, hri], h.2⟩ : r = .returned (.bool true) ∧ Below w10c.heap.size w10c w'))
      have HRV := Lib.hid hri
      clear hri
      go_wp2_with (first | ((with_reducible refine gate_dst (N := 86) rfl ?_); refine wpList_load_row rfl 30 (.tmp 5) rfl b3 rfl 30 _ (0, 0) _ HS10.out.q Try.underlying30 rfl (by kernel_rfl) ?_) | ((with_reducible refine gate_dst (N := 86) rfl ?_); refine gate_guard (by rfl) ?_; refine wpList_load_row rfl 30 (.tmp 5) rfl b3 rfl 30 _ (0, 0) _ HS10.out.q Try.underlying30 rfl (by kernel_rfl) ?_))
      refine HRI.out.mono ?_
      rintro e wr ⟨rfl, hBr⟩
      have HSr := Lib.hid (HS10.out.below hBr)
      clear hBr
      have x12 := (blk_cell HSr.out.q 12).trans (show _ = some (.slice none 0 0) from rfl)
      go_wp2_with fail
      refine (clip_calls none 0 0 _ (Nat.le_refl _) (by decide) (fun _ => ⟨rfl, rfl⟩)).mono ?_
      rintro e wx ⟨rfl, hwx⟩
      subst hwx
      clear x12
      go_wp2_with (first | ((with_reducible refine gate_store (t := 28) (p := 94) (v := .tmp 93) rfl ?_); refine store_ev2 (P := Try.prog) rfl 28 (.tmp 94) (.tmp 93) rfl rfl b3 12 (.slice none 0 0) #[(.slice none 0 0)] rfl rfl rfl 30 _ #[(.int .i64 5), (.int .u32 b.1), (.int .u32 b0.1), (.int .u64 c.1), (.int .u32 c.2.1), (.int .u64 0), (.int .u32 0), (.int .u64 0), (.int .u32 0), (.string ⟨#[]⟩), (.int .u8 0), (.bool false), (.slice none 0 0)] HSr.out.q (by kernel_rfl) (by show 12 + 1 ≤ 13; decide) (by kernel_rfl) (by kernel_rfl) ?_; intro wy hq hk hb; have HSx := Lib.hid (HSr.out.store HA.out hq hk hb); clear hq hk hb) | ((with_reducible refine gate_dst (N := 95) rfl ?_); refine wpList_load_row rfl 30 (.tmp 5) rfl b3 rfl 30 _ (0, 0) _ HSx.out.q Try.underlying30 rfl (by kernel_rfl) ?_) | ((with_reducible refine gate_store (t := 30) (p := 2) (v := .tmp 95) rfl ?_); refine store_ev2 (P := Try.prog) rfl 30 (.tmp 2) (.tmp 95) rfl rfl w.heap.size 0 (.agg #[(.int .i64 5), (.int .u32 b.1), (.int .u32 b0.1), (.int .u64 c.1), (.int .u32 c.2.1), (.int .u64 0), (.int .u32 0), (.int .u64 0), (.int .u32 0), (.string ⟨#[]⟩), (.int .u8 0), (.bool false), (.slice none 0 0)]) #[(.int .i64 5), (.int .u32 b.1), (.int .u32 b0.1), (.int .u64 c.1), (.int .u32 c.2.1), (.int .u64 0), (.int .u32 0), (.int .u64 0), (.int .u32 0), (.string ⟨#[]⟩), (.int .u8 0), (.bool false), (.slice none 0 0)] rfl rfl rfl 30 _ #[(.int .i64 5), (.int .u32 b.1), (.int .u32 b0.1), (.int .u64 c.1), (.int .u32 c.2.1), (.int .u64 0), (.int .u32 0), (.int .u64 0), (.int .u32 0), (.string ⟨#[]⟩), (.int .u8 0), (.bool false), (.slice none 0 0)] HSx.out.z (by kernel_rfl) (by show 0 + 13 ≤ 13; decide) (by kernel_rfl) (by kernel_rfl) ?_; intro w19 hq hk hb; have HZ9 := Lib.hid hq; have HB9 := Lib.hid (hb _ _ HA.out.a HSx.out.b); clear hq hk hb))
      refine bodyPost_ret (results_ct rfl _ _ w.heap.size 30 _ (0, 0) _ rfl HZ9.out Try.underlying30 rfl (by kernel_rfl)) rfl ?_
      exact ⟨none, 0, by rw [HR2.out]; rfl, by rw [HR2.out]; exact Kd.C_nil _ _, by rw [HR2.out]; exact Nat.le_refl _, HB9.out⟩
  · have HR2 : Hid (readE s = (zE, 2)) := Lib.hid (by rw [HRD.out, if_neg he])
    have heb : (en == 0) = false := by simpa using he
    have heb2 : (en != 0) = true := by simpa using he
    go_wp2_with ((with_reducible refine gate_store (t := 30) (p := 2) (v := .tmp 90) rfl ?_); refine store_ev2 (P := Try.prog) rfl 30 (.tmp 2) (.tmp 90) rfl rfl w.heap.size 0 (.agg #[(.int .i64 0), (.int .u32 0), (.int .u32 0), (.int .u64 0), (.int .u32 0), (.int .u64 0), (.int .u32 0), (.int .u64 0), (.int .u32 0), (.string ⟨#[]⟩), (.int .u8 0), (.bool false), (.slice none 0 0)]) #[(.int .i64 0), (.int .u32 0), (.int .u32 0), (.int .u64 0), (.int .u32 0), (.int .u64 0), (.int .u32 0), (.int .u64 0), (.int .u32 0), (.string ⟨#[]⟩), (.int .u8 0), (.bool false), (.slice none 0 0)] rfl rfl rfl 30 _ #[(.int .i64 0), (.int .u32 0), (.int .u32 0), (.int .u64 0), (.int .u32 0), (.int .u64 0), (.int .u32 0), (.int .u64 0), (.int .u32 0), (.string ⟨#[]⟩), (.int .u8 0), (.bool false), (.slice none 0 0)] HS10.out.z (by kernel_rfl) (by show 0 + 13 ≤ 13; decide) (by kernel_rfl) (by kernel_rfl) ?_; intro w19 hq hk hb; have HZ9 := Lib.hid hq; have HB9 := Lib.hid (hb _ _ HA.out.a HS10.out.b); clear hq hk hb)
    refine bodyPost_ret (results_ct rfl _ _ w.heap.size 30 _ (0, 0) _ rfl HZ9.out Try.underlying30 rfl (by kernel_rfl)) rfl ?_
    exact ⟨none, 0, by rw [HR2.out]; rfl, by rw [HR2.out]; exact Kd.C_nil _ _, by rw [HR2.out]; exact Nat.le_refl _, HB9.out⟩
set_option maxRecDepth 100000 in
set_option maxHeartbeats 16000000 in
theorem read_6 (s : ByteArray) (hs : s.size ≤ 9223372036854775807) (w : World) (hk : (rdNum s 0 9).1 = 6) : Calls Try.prog 11 #[.string s] w (ReadP s w) := by
  have HX0 := Lib.hid (heap_alloc_new w (.cells #[(.int .i64 0), (.int .u32 0), (.int .u32 0), (.int .u64 0), (.int .u32 0), (.int .u64 0), (.int .u32 0), (.int .u64 0), (.int .u32 0), (.string ⟨#[]⟩), (.int .u8 0), (.bool false), (.slice none 0 0)] 30))
  have HB0 := Lib.hid (below_alloc' (Below.refl _ w) (.cells #[(.int .i64 0), (.int .u32 0), (.int .u32 0), (.int .u64 0), (.int .u32 0), (.int .u64 0), (.int .u32 0), (.int .u64 0), (.int .u32 0), (.string ⟨#[]⟩), (.int .u8 0), (.bool false), (.slice none 0 0)] 30))
  go_enter Try.func11, Try.ntmps11
  go_wp2_with fail
  refine (rnew s HB0.out).mono ?_
  rintro e w1 ⟨g, rfl, hI, hB, hb1, hge⟩
  have HX1 := Lib.hid ((hb1.block _ (lt_at2 HX0.out)).trans HX0.out)
  have HN2 : Hid (w.heap.size ≠ g) := Lib.hid (by have := lt_at2 HX0.out; omega)
  have HI1 := Lib.hid hI
  have HB1 := Lib.hid hB
  clear hI hB hb1 hge HX0 HB0
  go_wp2_with fail
  refine (rnumber w _ g s 0 9 (by decide) (by decide) HI1.out HB1.out).mono ?_
  rintro e w2 ⟨rfl, hl⟩
  have hkk := hk
  have za := rdNum_facts s 0 9 (by decide)
  obtain ⟨a, ha⟩ : ∃ x, x = rdNum s 0 9 := ⟨_, rfl⟩
  rw [← ha] at hl za hk ⊢
  have EA := Lib.hid ha
  have zaz := za.2.2
  rw [hk]
  have HK0 := Lib.hid hk
  clear ha hk hkk za
  have h2 := blk_keep HX1.out hl.2.2 HN2.out
  have h3 := heap_alloc_new w2 (.cells #[(.int .i64 0), (.int .u32 0), (.int .u32 0), (.int .u64 0), (.int .u32 0), (.int .u64 0), (.int .u32 0), (.int .u64 0), (.int .u32 0), (.string ⟨#[]⟩), (.int .u8 0), (.bool false), (.slice none 0 0)] 30)
  have hg1 := lt_at2 hl.1.1
  have h22 := lt_at2 h2
  have HA : Hid (PUt w g w.heap.size w2.heap.size) := Lib.hid ⟨Nat.le_refl _, by have := hl.2.1.size; omega, HN2.out, by omega, by omega⟩
  have HS1 : Hid (PSu w g w.heap.size w2.heap.size #[(.int .i64 0), (.int .u32 0), (.int .u32 0), (.int .u64 0), (.int .u32 0), (.int .u64 0), (.int .u32 0), (.int .u64 0), (.int .u32 0), (.string ⟨#[]⟩), (.int .u8 0), (.bool false), (.slice none 0 0)] a.2.1 a.2.2 #[(.int .i64 0), (.int .u32 0), (.int .u32 0), (.int .u64 0), (.int .u32 0), (.int .u64 0), (.int .u32 0), (.int .u64 0), (.int .u32 0), (.string ⟨#[]⟩), (.int .u8 0), (.bool false), (.slice none 0 0)] (w2.alloc (.cells #[(.int .i64 0), (.int .u32 0), (.int .u32 0), (.int .u64 0), (.int .u32 0), (.int .u64 0), (.int .u32 0), (.int .u64 0), (.int .u32 0), (.string ⟨#[]⟩), (.int .u8 0), (.bool false), (.slice none 0 0)] 30))) := Lib.hid ⟨hl.1.alloc _, below_alloc' hl.2.1 _, blk_alloc h2 _, h3⟩
  clear hl h2 h3 hg1 h22 HX1 HN2 HI1 HB1
  go_wp2_with ((with_reducible refine gate_store (t := 30) (p := 5) (v := .tmp 12) rfl ?_); refine store_ev2 (P := Try.prog) rfl 30 (.tmp 5) (.tmp 12) rfl rfl w2.heap.size 0 (.agg #[(.int .i64 6), (.int .u32 0), (.int .u32 0), (.int .u64 0), (.int .u32 0), (.int .u64 0), (.int .u32 0), (.int .u64 0), (.int .u32 0), (.string ⟨#[]⟩), (.int .u8 0), (.bool false), (.slice none 0 0)]) #[(.int .i64 6), (.int .u32 0), (.int .u32 0), (.int .u64 0), (.int .u32 0), (.int .u64 0), (.int .u32 0), (.int .u64 0), (.int .u32 0), (.string ⟨#[]⟩), (.int .u8 0), (.bool false), (.slice none 0 0)] rfl rfl rfl 30 _ #[(.int .i64 6), (.int .u32 0), (.int .u32 0), (.int .u64 0), (.int .u32 0), (.int .u64 0), (.int .u32 0), (.int .u64 0), (.int .u32 0), (.string ⟨#[]⟩), (.int .u8 0), (.bool false), (.slice none 0 0)] HS1.out.q (by kernel_rfl) (by show 0 + 13 ≤ 13; decide) (by kernel_rfl) (by kernel_rfl) ?_; intro w2s hq hk hb; have HS2 := Lib.hid (HS1.out.store HA.out hq hk hb); have x0 := (blk_cell HS2.out.q 0).trans (show _ = some (.int .i64 6) from rfl); clear hq hk hb)
  clear HS1
  generalize w2.heap.size = b3 at *
  refine (fieldsB_calls 6 8 (by rfl) _).mono ?_
  rintro e w3 ⟨rfl, hb⟩
  have HS3 := Lib.hid (HS2.out.below hb)
  clear hb HS2 x0
  have b1 : bits .and .i64 8 1 = 0 := by kernel_rfl
  have b2 : bits .and .i64 8 2 = 0 := by kernel_rfl
  have b4 : bits .and .i64 8 4 = 0 := by kernel_rfl
  have b8 : bits .and .i64 8 8 = 8 := by kernel_rfl
  have b16 : bits .and .i64 8 16 = 0 := by kernel_rfl
  have b32 : bits .and .i64 8 32 = 0 := by kernel_rfl
  have b64 : bits .and .i64 8 64 = 0 := by kernel_rfl
  have b128 : bits .and .i64 8 128 = 0 := by kernel_rfl
  have b256 : bits .and .i64 8 256 = 0 := by kernel_rfl
  go_wp2_with fail
  refine (rstamp HS3.out.i HS3.out.b).mono ?_
  rintro e w4c ⟨rfl, hl⟩
  have zf := stamp_sz a.2.1 a.2.2
  obtain ⟨f, hf⟩ : ∃ x, x = rdStamp a.2.1 a.2.2 := ⟨_, rfl⟩
  rw [← hf] at hl zf ⊢
  have EF := Lib.hid hf
  clear hf
  have HS4 := Lib.hid (HS3.out.call HA.out hl)
  clear hl HS3 
  go_wp2_with ((with_reducible refine gate_store (t := 27) (p := 46) (v := .tmp 45) rfl ?_); refine store_ev2 (P := Try.prog) rfl 27 (.tmp 46) (.tmp 45) rfl rfl b3 5 (.agg #[.int .u64 f.1, .int .u32 f.2.1]) #[(.int .u64 f.1), (.int .u32 f.2.1)] rfl rfl rfl 30 _ #[(.int .i64 6), (.int .u32 0), (.int .u32 0), (.int .u64 0), (.int .u32 0), (.int .u64 f.1), (.int .u32 f.2.1), (.int .u64 0), (.int .u32 0), (.string ⟨#[]⟩), (.int .u8 0), (.bool false), (.slice none 0 0)] HS4.out.q (by kernel_rfl) (by show 5 + 2 ≤ 13; decide) (by kernel_rfl) (by kernel_rfl) ?_; intro w5s hq hk hb; have HS5 := Lib.hid (HS4.out.store HA.out hq hk hb); clear hq hk hb)
  clear HS4 
  refine (rend HS5.out.i HS5.out.b).mono ?_
  rintro e w6c ⟨rfl, hl⟩
  have HS6 := Lib.hid (HS5.out.call HA.out hl)
  clear hl HS5 
  obtain ⟨en, hen⟩ : ∃ en, en = rdEnd f.2.2.1 f.2.2.2 := ⟨_, rfl⟩
  rw [← hen]
  have HEN := Lib.hid hen
  clear hen
  have HRD : Hid (readE s = if en = 0 then (if rightE ⟨6, 0, 0, 0, 0, f.1, f.2.1, 0, 0, ⟨#[]⟩, 0, false, []⟩ = true then (⟨6, 0, 0, 0, 0, f.1, f.2.1, 0, 0, ⟨#[]⟩, 0, false, []⟩, 0) else (zE, 2)) else (zE, 2)) := Lib.hid (by
    have hp : rdE s = (⟨6, 0, 0, 0, 0, f.1, f.2.1, 0, 0, ⟨#[]⟩, 0, false, []⟩, f.2.2.1, f.2.2.2) := by
      unfold rdE rdTail orX rdX
      rw [← EA.out, HK0.out]
      simp [hB, hS, hM, hA, hW, hT, hD, lstR, ← EF.out]
    unfold readE
    rw [hp, ← HEN.out])
  have HOK : Hid (EOk ⟨6, 0, 0, 0, 0, f.1, f.2.1, 0, 0, ⟨#[]⟩, 0, false, []⟩) := Lib.hid (by
    have hp : (rdTail 6 a.2.1 a.2.2).1 = ⟨6, 0, 0, 0, 0, f.1, f.2.1, 0, 0, ⟨#[]⟩, 0, false, []⟩ := by
      unfold rdTail orX rdX
      simp [hB, hS, hM, hA, hW, hT, hD, lstR, ← EF.out]
    rw [← hp]
    exact tailOk _ (by decide) _ _)
  rcases (show en = 0 ∨ en ≠ 0 from by omega) with he | he
  · subst he
    cases hri : rightE ⟨6, 0, 0, 0, 0, f.1, f.2.1, 0, 0, ⟨#[]⟩, 0, false, []⟩ with
    | false =>
      have HR2 : Hid (readE s = (zE, 2)) := Lib.hid (by rw [HRD.out, if_pos rfl, if_neg (by rw [hri]; decide)])
      have HRI := Lib.hid ((right_calls ⟨6, 0, 0, 0, 0, f.1, f.2.1, 0, 0, ⟨#[]⟩, 0, false, []⟩ none 0 w6c (Kd.C_nil _ _) HOK.out.ws).mono fun r w' (h : r = .returned (.bool (rightE ⟨6, 0, 0, 0, 0, f.1, f.2.1, 0, 0, ⟨#[]⟩, 0, false, []⟩)) ∧ Below w6c.heap.size w6c w') => (⟨by rw [h.1, hri], h.2⟩ : r = .returned (.bool false) ∧ Below w6c.heap.size w6c w'))
      have HRV := Lib.hid hri
      clear hri
      go_wp2_with (first | ((with_reducible refine gate_dst (N := 86) rfl ?_); refine wpList_load_row rfl 30 (.tmp 5) rfl b3 rfl 30 _ (0, 0) _ HS6.out.q Try.underlying30 rfl (by kernel_rfl) ?_) | ((with_reducible refine gate_dst (N := 86) rfl ?_); refine gate_guard (by rfl) ?_; refine wpList_load_row rfl 30 (.tmp 5) rfl b3 rfl 30 _ (0, 0) _ HS6.out.q Try.underlying30 rfl (by kernel_rfl) ?_))
      refine HRI.out.mono ?_
      rintro e wr ⟨rfl, hBr⟩
      have HSr := Lib.hid (HS6.out.below hBr)
      clear hBr
      go_wp2_with ((with_reducible refine gate_store (t := 30) (p := 2) (v := .tmp 90) rfl ?_); refine store_ev2 (P := Try.prog) rfl 30 (.tmp 2) (.tmp 90) rfl rfl w.heap.size 0 (.agg #[(.int .i64 0), (.int .u32 0), (.int .u32 0), (.int .u64 0), (.int .u32 0), (.int .u64 0), (.int .u32 0), (.int .u64 0), (.int .u32 0), (.string ⟨#[]⟩), (.int .u8 0), (.bool false), (.slice none 0 0)]) #[(.int .i64 0), (.int .u32 0), (.int .u32 0), (.int .u64 0), (.int .u32 0), (.int .u64 0), (.int .u32 0), (.int .u64 0), (.int .u32 0), (.string ⟨#[]⟩), (.int .u8 0), (.bool false), (.slice none 0 0)] rfl rfl rfl 30 _ #[(.int .i64 0), (.int .u32 0), (.int .u32 0), (.int .u64 0), (.int .u32 0), (.int .u64 0), (.int .u32 0), (.int .u64 0), (.int .u32 0), (.string ⟨#[]⟩), (.int .u8 0), (.bool false), (.slice none 0 0)] HSr.out.z (by kernel_rfl) (by show 0 + 13 ≤ 13; decide) (by kernel_rfl) (by kernel_rfl) ?_; intro w19 hq hk hb; have HZ9 := Lib.hid hq; have HB9 := Lib.hid (hb _ _ HA.out.a HSr.out.b); clear hq hk hb)
      refine bodyPost_ret (results_ct rfl _ _ w.heap.size 30 _ (0, 0) _ rfl HZ9.out Try.underlying30 rfl (by kernel_rfl)) rfl ?_
      exact ⟨none, 0, by rw [HR2.out]; rfl, by rw [HR2.out]; exact Kd.C_nil _ _, by rw [HR2.out]; exact Nat.le_refl _, HB9.out⟩
    | true =>
      have HR2 : Hid (readE s = (⟨6, 0, 0, 0, 0, f.1, f.2.1, 0, 0, ⟨#[]⟩, 0, false, []⟩, 0)) := Lib.hid (by rw [HRD.out, if_pos rfl, if_pos hri])
      have HRI := Lib.hid ((right_calls ⟨6, 0, 0, 0, 0, f.1, f.2.1, 0, 0, ⟨#[]⟩, 0, false, []⟩ none 0 w6c (Kd.C_nil _ _) HOK.out.ws).mono fun r w' (h : r = .returned (.bool (rightE ⟨6, 0, 0, 0, 0, f.1, f.2.1, 0, 0, ⟨#[]⟩, 0, false, []⟩)) ∧ Below w6c.heap.size w6c w') => (⟨by rw [h.1, hri], h.2⟩ : r = .returned (.bool true) ∧ Below w6c.heap.size w6c w'))
      have HRV := Lib.hid hri
      clear hri
      go_wp2_with (first | ((with_reducible refine gate_dst (N := 86) rfl ?_); refine wpList_load_row rfl 30 (.tmp 5) rfl b3 rfl 30 _ (0, 0) _ HS6.out.q Try.underlying30 rfl (by kernel_rfl) ?_) | ((with_reducible refine gate_dst (N := 86) rfl ?_); refine gate_guard (by rfl) ?_; refine wpList_load_row rfl 30 (.tmp 5) rfl b3 rfl 30 _ (0, 0) _ HS6.out.q Try.underlying30 rfl (by kernel_rfl) ?_))
      refine HRI.out.mono ?_
      rintro e wr ⟨rfl, hBr⟩
      have HSr := Lib.hid (HS6.out.below hBr)
      clear hBr
      have x12 := (blk_cell HSr.out.q 12).trans (show _ = some (.slice none 0 0) from rfl)
      go_wp2_with fail
      refine (clip_calls none 0 0 _ (Nat.le_refl _) (by decide) (fun _ => ⟨rfl, rfl⟩)).mono ?_
      rintro e wx ⟨rfl, hwx⟩
      subst hwx
      clear x12
      go_wp2_with (first | ((with_reducible refine gate_store (t := 28) (p := 94) (v := .tmp 93) rfl ?_); refine store_ev2 (P := Try.prog) rfl 28 (.tmp 94) (.tmp 93) rfl rfl b3 12 (.slice none 0 0) #[(.slice none 0 0)] rfl rfl rfl 30 _ #[(.int .i64 6), (.int .u32 0), (.int .u32 0), (.int .u64 0), (.int .u32 0), (.int .u64 f.1), (.int .u32 f.2.1), (.int .u64 0), (.int .u32 0), (.string ⟨#[]⟩), (.int .u8 0), (.bool false), (.slice none 0 0)] HSr.out.q (by kernel_rfl) (by show 12 + 1 ≤ 13; decide) (by kernel_rfl) (by kernel_rfl) ?_; intro wy hq hk hb; have HSx := Lib.hid (HSr.out.store HA.out hq hk hb); clear hq hk hb) | ((with_reducible refine gate_dst (N := 95) rfl ?_); refine wpList_load_row rfl 30 (.tmp 5) rfl b3 rfl 30 _ (0, 0) _ HSx.out.q Try.underlying30 rfl (by kernel_rfl) ?_) | ((with_reducible refine gate_store (t := 30) (p := 2) (v := .tmp 95) rfl ?_); refine store_ev2 (P := Try.prog) rfl 30 (.tmp 2) (.tmp 95) rfl rfl w.heap.size 0 (.agg #[(.int .i64 6), (.int .u32 0), (.int .u32 0), (.int .u64 0), (.int .u32 0), (.int .u64 f.1), (.int .u32 f.2.1), (.int .u64 0), (.int .u32 0), (.string ⟨#[]⟩), (.int .u8 0), (.bool false), (.slice none 0 0)]) #[(.int .i64 6), (.int .u32 0), (.int .u32 0), (.int .u64 0), (.int .u32 0), (.int .u64 f.1), (.int .u32 f.2.1), (.int .u64 0), (.int .u32 0), (.string ⟨#[]⟩), (.int .u8 0), (.bool false), (.slice none 0 0)] rfl rfl rfl 30 _ #[(.int .i64 6), (.int .u32 0), (.int .u32 0), (.int .u64 0), (.int .u32 0), (.int .u64 f.1), (.int .u32 f.2.1), (.int .u64 0), (.int .u32 0), (.string ⟨#[]⟩), (.int .u8 0), (.bool false), (.slice none 0 0)] HSx.out.z (by kernel_rfl) (by show 0 + 13 ≤ 13; decide) (by kernel_rfl) (by kernel_rfl) ?_; intro w19 hq hk hb; have HZ9 := Lib.hid hq; have HB9 := Lib.hid (hb _ _ HA.out.a HSx.out.b); clear hq hk hb))
      refine bodyPost_ret (results_ct rfl _ _ w.heap.size 30 _ (0, 0) _ rfl HZ9.out Try.underlying30 rfl (by kernel_rfl)) rfl ?_
      exact ⟨none, 0, by rw [HR2.out]; rfl, by rw [HR2.out]; exact Kd.C_nil _ _, by rw [HR2.out]; exact Nat.le_refl _, HB9.out⟩
  · have HR2 : Hid (readE s = (zE, 2)) := Lib.hid (by rw [HRD.out, if_neg he])
    have heb : (en == 0) = false := by simpa using he
    have heb2 : (en != 0) = true := by simpa using he
    go_wp2_with ((with_reducible refine gate_store (t := 30) (p := 2) (v := .tmp 90) rfl ?_); refine store_ev2 (P := Try.prog) rfl 30 (.tmp 2) (.tmp 90) rfl rfl w.heap.size 0 (.agg #[(.int .i64 0), (.int .u32 0), (.int .u32 0), (.int .u64 0), (.int .u32 0), (.int .u64 0), (.int .u32 0), (.int .u64 0), (.int .u32 0), (.string ⟨#[]⟩), (.int .u8 0), (.bool false), (.slice none 0 0)]) #[(.int .i64 0), (.int .u32 0), (.int .u32 0), (.int .u64 0), (.int .u32 0), (.int .u64 0), (.int .u32 0), (.int .u64 0), (.int .u32 0), (.string ⟨#[]⟩), (.int .u8 0), (.bool false), (.slice none 0 0)] rfl rfl rfl 30 _ #[(.int .i64 0), (.int .u32 0), (.int .u32 0), (.int .u64 0), (.int .u32 0), (.int .u64 0), (.int .u32 0), (.int .u64 0), (.int .u32 0), (.string ⟨#[]⟩), (.int .u8 0), (.bool false), (.slice none 0 0)] HS6.out.z (by kernel_rfl) (by show 0 + 13 ≤ 13; decide) (by kernel_rfl) (by kernel_rfl) ?_; intro w19 hq hk hb; have HZ9 := Lib.hid hq; have HB9 := Lib.hid (hb _ _ HA.out.a HS6.out.b); clear hq hk hb)
    refine bodyPost_ret (results_ct rfl _ _ w.heap.size 30 _ (0, 0) _ rfl HZ9.out Try.underlying30 rfl (by kernel_rfl)) rfl ?_
    exact ⟨none, 0, by rw [HR2.out]; rfl, by rw [HR2.out]; exact Kd.C_nil _ _, by rw [HR2.out]; exact Nat.le_refl _, HB9.out⟩
set_option maxRecDepth 100000 in
set_option maxHeartbeats 16000000 in
theorem read_7 (s : ByteArray) (hs : s.size ≤ 9223372036854775807) (w : World) (hk : (rdNum s 0 9).1 = 7) : Calls Try.prog 11 #[.string s] w (ReadP s w) := by
  have HX0 := Lib.hid (heap_alloc_new w (.cells #[(.int .i64 0), (.int .u32 0), (.int .u32 0), (.int .u64 0), (.int .u32 0), (.int .u64 0), (.int .u32 0), (.int .u64 0), (.int .u32 0), (.string ⟨#[]⟩), (.int .u8 0), (.bool false), (.slice none 0 0)] 30))
  have HB0 := Lib.hid (below_alloc' (Below.refl _ w) (.cells #[(.int .i64 0), (.int .u32 0), (.int .u32 0), (.int .u64 0), (.int .u32 0), (.int .u64 0), (.int .u32 0), (.int .u64 0), (.int .u32 0), (.string ⟨#[]⟩), (.int .u8 0), (.bool false), (.slice none 0 0)] 30))
  go_enter Try.func11, Try.ntmps11
  go_wp2_with fail
  refine (rnew s HB0.out).mono ?_
  rintro e w1 ⟨g, rfl, hI, hB, hb1, hge⟩
  have HX1 := Lib.hid ((hb1.block _ (lt_at2 HX0.out)).trans HX0.out)
  have HN2 : Hid (w.heap.size ≠ g) := Lib.hid (by have := lt_at2 HX0.out; omega)
  have HI1 := Lib.hid hI
  have HB1 := Lib.hid hB
  clear hI hB hb1 hge HX0 HB0
  go_wp2_with fail
  refine (rnumber w _ g s 0 9 (by decide) (by decide) HI1.out HB1.out).mono ?_
  rintro e w2 ⟨rfl, hl⟩
  have hkk := hk
  have za := rdNum_facts s 0 9 (by decide)
  obtain ⟨a, ha⟩ : ∃ x, x = rdNum s 0 9 := ⟨_, rfl⟩
  rw [← ha] at hl za hk ⊢
  have EA := Lib.hid ha
  have zaz := za.2.2
  rw [hk]
  have HK0 := Lib.hid hk
  clear ha hk hkk za
  have h2 := blk_keep HX1.out hl.2.2 HN2.out
  have h3 := heap_alloc_new w2 (.cells #[(.int .i64 0), (.int .u32 0), (.int .u32 0), (.int .u64 0), (.int .u32 0), (.int .u64 0), (.int .u32 0), (.int .u64 0), (.int .u32 0), (.string ⟨#[]⟩), (.int .u8 0), (.bool false), (.slice none 0 0)] 30)
  have hg1 := lt_at2 hl.1.1
  have h22 := lt_at2 h2
  have HA : Hid (PUt w g w.heap.size w2.heap.size) := Lib.hid ⟨Nat.le_refl _, by have := hl.2.1.size; omega, HN2.out, by omega, by omega⟩
  have HS1 : Hid (PSu w g w.heap.size w2.heap.size #[(.int .i64 0), (.int .u32 0), (.int .u32 0), (.int .u64 0), (.int .u32 0), (.int .u64 0), (.int .u32 0), (.int .u64 0), (.int .u32 0), (.string ⟨#[]⟩), (.int .u8 0), (.bool false), (.slice none 0 0)] a.2.1 a.2.2 #[(.int .i64 0), (.int .u32 0), (.int .u32 0), (.int .u64 0), (.int .u32 0), (.int .u64 0), (.int .u32 0), (.int .u64 0), (.int .u32 0), (.string ⟨#[]⟩), (.int .u8 0), (.bool false), (.slice none 0 0)] (w2.alloc (.cells #[(.int .i64 0), (.int .u32 0), (.int .u32 0), (.int .u64 0), (.int .u32 0), (.int .u64 0), (.int .u32 0), (.int .u64 0), (.int .u32 0), (.string ⟨#[]⟩), (.int .u8 0), (.bool false), (.slice none 0 0)] 30))) := Lib.hid ⟨hl.1.alloc _, below_alloc' hl.2.1 _, blk_alloc h2 _, h3⟩
  clear hl h2 h3 hg1 h22 HX1 HN2 HI1 HB1
  go_wp2_with ((with_reducible refine gate_store (t := 30) (p := 5) (v := .tmp 12) rfl ?_); refine store_ev2 (P := Try.prog) rfl 30 (.tmp 5) (.tmp 12) rfl rfl w2.heap.size 0 (.agg #[(.int .i64 7), (.int .u32 0), (.int .u32 0), (.int .u64 0), (.int .u32 0), (.int .u64 0), (.int .u32 0), (.int .u64 0), (.int .u32 0), (.string ⟨#[]⟩), (.int .u8 0), (.bool false), (.slice none 0 0)]) #[(.int .i64 7), (.int .u32 0), (.int .u32 0), (.int .u64 0), (.int .u32 0), (.int .u64 0), (.int .u32 0), (.int .u64 0), (.int .u32 0), (.string ⟨#[]⟩), (.int .u8 0), (.bool false), (.slice none 0 0)] rfl rfl rfl 30 _ #[(.int .i64 7), (.int .u32 0), (.int .u32 0), (.int .u64 0), (.int .u32 0), (.int .u64 0), (.int .u32 0), (.int .u64 0), (.int .u32 0), (.string ⟨#[]⟩), (.int .u8 0), (.bool false), (.slice none 0 0)] HS1.out.q (by kernel_rfl) (by show 0 + 13 ≤ 13; decide) (by kernel_rfl) (by kernel_rfl) ?_; intro w2s hq hk hb; have HS2 := Lib.hid (HS1.out.store HA.out hq hk hb); have x0 := (blk_cell HS2.out.q 0).trans (show _ = some (.int .i64 7) from rfl); clear hq hk hb)
  clear HS1
  generalize w2.heap.size = b3 at *
  refine (fieldsB_calls 7 1 (by rfl) _).mono ?_
  rintro e w3 ⟨rfl, hb⟩
  have HS3 := Lib.hid (HS2.out.below hb)
  clear hb HS2 x0
  have b1 : bits .and .i64 1 1 = 1 := by kernel_rfl
  have b2 : bits .and .i64 1 2 = 0 := by kernel_rfl
  have b4 : bits .and .i64 1 4 = 0 := by kernel_rfl
  have b8 : bits .and .i64 1 8 = 0 := by kernel_rfl
  have b16 : bits .and .i64 1 16 = 0 := by kernel_rfl
  have b32 : bits .and .i64 1 32 = 0 := by kernel_rfl
  have b64 : bits .and .i64 1 64 = 0 := by kernel_rfl
  have b128 : bits .and .i64 1 128 = 0 := by kernel_rfl
  have b256 : bits .and .i64 1 256 = 0 := by kernel_rfl
  go_wp2_with fail
  refine (rnumber w _ g _ _ 4294967295 (by decide) (by decide) HS3.out.i HS3.out.b).mono ?_
  rintro e w4c ⟨rfl, hl⟩
  have zb := rdNum_facts a.2.1 a.2.2 4294967295 (by decide)
  obtain ⟨b, hb⟩ : ∃ x, x = rdNum a.2.1 a.2.2 4294967295 := ⟨_, rfl⟩
  rw [← hb] at hl zb ⊢
  have EB := Lib.hid hb
  clear hb
  have HS4 := Lib.hid (HS3.out.call HA.out hl)
  clear hl HS3 
  have hwb : b.1 % 4294967296 = b.1 := Int.emod_eq_of_lt zb.1 (by omega)
  go_wp2_with ((with_reducible refine gate_store (t := 22) (p := 23) (v := .tmp 21) rfl ?_); refine store_ev2 (P := Try.prog) rfl 22 (.tmp 23) (.tmp 21) rfl rfl b3 1 (.int .u32 b.1) #[(.int .u32 b.1)] rfl rfl rfl 30 _ #[(.int .i64 7), (.int .u32 b.1), (.int .u32 0), (.int .u64 0), (.int .u32 0), (.int .u64 0), (.int .u32 0), (.int .u64 0), (.int .u32 0), (.string ⟨#[]⟩), (.int .u8 0), (.bool false), (.slice none 0 0)] HS4.out.q (by kernel_rfl) (by show 1 + 1 ≤ 13; decide) (by kernel_rfl) (by kernel_rfl) ?_; intro w5s hq hk hb; have HS5 := Lib.hid (HS4.out.store HA.out hq hk hb); clear hq hk hb)
  clear HS4 
  refine (rnumber w _ g _ _ 4294967295 (by decide) (by decide) HS5.out.i HS5.out.b).mono ?_
  rintro e w6c ⟨rfl, hl⟩
  have zb0 := rdNum_facts b.2.1 b.2.2 4294967295 (by decide)
  obtain ⟨b0, hb0⟩ : ∃ x, x = rdNum b.2.1 b.2.2 4294967295 := ⟨_, rfl⟩
  rw [← hb0] at hl zb0 ⊢
  have EB0 := Lib.hid hb0
  clear hb0
  have HS6 := Lib.hid (HS5.out.call HA.out hl)
  clear hl HS5 
  have hwb0 : b0.1 % 4294967296 = b0.1 := Int.emod_eq_of_lt zb0.1 (by omega)
  go_wp2_with ((with_reducible refine gate_store (t := 22) (p := 28) (v := .tmp 26) rfl ?_); refine store_ev2 (P := Try.prog) rfl 22 (.tmp 28) (.tmp 26) rfl rfl b3 2 (.int .u32 b0.1) #[(.int .u32 b0.1)] rfl rfl rfl 30 _ #[(.int .i64 7), (.int .u32 b.1), (.int .u32 b0.1), (.int .u64 0), (.int .u32 0), (.int .u64 0), (.int .u32 0), (.int .u64 0), (.int .u32 0), (.string ⟨#[]⟩), (.int .u8 0), (.bool false), (.slice none 0 0)] HS6.out.q (by kernel_rfl) (by show 2 + 1 ≤ 13; decide) (by kernel_rfl) (by kernel_rfl) ?_; intro w7s hq hk hb; have HS7 := Lib.hid (HS6.out.store HA.out hq hk hb); clear hq hk hb)
  clear HS6 
  refine (rend HS7.out.i HS7.out.b).mono ?_
  rintro e w8c ⟨rfl, hl⟩
  have HS8 := Lib.hid (HS7.out.call HA.out hl)
  clear hl HS7 
  obtain ⟨en, hen⟩ : ∃ en, en = rdEnd b0.2.1 b0.2.2 := ⟨_, rfl⟩
  rw [← hen]
  have HEN := Lib.hid hen
  clear hen
  have HRD : Hid (readE s = if en = 0 then (if rightE ⟨7, b.1, b0.1, 0, 0, 0, 0, 0, 0, ⟨#[]⟩, 0, false, []⟩ = true then (⟨7, b.1, b0.1, 0, 0, 0, 0, 0, 0, ⟨#[]⟩, 0, false, []⟩, 0) else (zE, 2)) else (zE, 2)) := Lib.hid (by
    have hp : rdE s = (⟨7, b.1, b0.1, 0, 0, 0, 0, 0, 0, ⟨#[]⟩, 0, false, []⟩, b0.2.1, b0.2.2) := by
      unfold rdE rdTail orX rdX
      rw [← EA.out, HK0.out]
      simp [hB, hS, hM, hA, hW, hT, hD, lstR, ← EB.out, ← EB0.out]
    unfold readE
    rw [hp, ← HEN.out])
  have HOK : Hid (EOk ⟨7, b.1, b0.1, 0, 0, 0, 0, 0, 0, ⟨#[]⟩, 0, false, []⟩) := Lib.hid (by
    have hp : (rdTail 7 a.2.1 a.2.2).1 = ⟨7, b.1, b0.1, 0, 0, 0, 0, 0, 0, ⟨#[]⟩, 0, false, []⟩ := by
      unfold rdTail orX rdX
      simp [hB, hS, hM, hA, hW, hT, hD, lstR, ← EB.out, ← EB0.out]
    rw [← hp]
    exact tailOk _ (by decide) _ _)
  rcases (show en = 0 ∨ en ≠ 0 from by omega) with he | he
  · subst he
    cases hri : rightE ⟨7, b.1, b0.1, 0, 0, 0, 0, 0, 0, ⟨#[]⟩, 0, false, []⟩ with
    | false =>
      have HR2 : Hid (readE s = (zE, 2)) := Lib.hid (by rw [HRD.out, if_pos rfl, if_neg (by rw [hri]; decide)])
      have HRI := Lib.hid ((right_calls ⟨7, b.1, b0.1, 0, 0, 0, 0, 0, 0, ⟨#[]⟩, 0, false, []⟩ none 0 w8c (Kd.C_nil _ _) HOK.out.ws).mono fun r w' (h : r = .returned (.bool (rightE ⟨7, b.1, b0.1, 0, 0, 0, 0, 0, 0, ⟨#[]⟩, 0, false, []⟩)) ∧ Below w8c.heap.size w8c w') => (⟨by rw [h.1, hri], h.2⟩ : r = .returned (.bool false) ∧ Below w8c.heap.size w8c w'))
      have HRV := Lib.hid hri
      clear hri
      go_wp2_with (first | ((with_reducible refine gate_dst (N := 86) rfl ?_); refine wpList_load_row rfl 30 (.tmp 5) rfl b3 rfl 30 _ (0, 0) _ HS8.out.q Try.underlying30 rfl (by kernel_rfl) ?_) | ((with_reducible refine gate_dst (N := 86) rfl ?_); refine gate_guard (by rfl) ?_; refine wpList_load_row rfl 30 (.tmp 5) rfl b3 rfl 30 _ (0, 0) _ HS8.out.q Try.underlying30 rfl (by kernel_rfl) ?_))
      refine HRI.out.mono ?_
      rintro e wr ⟨rfl, hBr⟩
      have HSr := Lib.hid (HS8.out.below hBr)
      clear hBr
      go_wp2_with ((with_reducible refine gate_store (t := 30) (p := 2) (v := .tmp 90) rfl ?_); refine store_ev2 (P := Try.prog) rfl 30 (.tmp 2) (.tmp 90) rfl rfl w.heap.size 0 (.agg #[(.int .i64 0), (.int .u32 0), (.int .u32 0), (.int .u64 0), (.int .u32 0), (.int .u64 0), (.int .u32 0), (.int .u64 0), (.int .u32 0), (.string ⟨#[]⟩), (.int .u8 0), (.bool false), (.slice none 0 0)]) #[(.int .i64 0), (.int .u32 0), (.int .u32 0), (.int .u64 0), (.int .u32 0), (.int .u64 0), (.int .u32 0), (.int .u64 0), (.int .u32 0), (.string ⟨#[]⟩), (.int .u8 0), (.bool false), (.slice none 0 0)] rfl rfl rfl 30 _ #[(.int .i64 0), (.int .u32 0), (.int .u32 0), (.int .u64 0), (.int .u32 0), (.int .u64 0), (.int .u32 0), (.int .u64 0), (.int .u32 0), (.string ⟨#[]⟩), (.int .u8 0), (.bool false), (.slice none 0 0)] HSr.out.z (by kernel_rfl) (by show 0 + 13 ≤ 13; decide) (by kernel_rfl) (by kernel_rfl) ?_; intro w19 hq hk hb; have HZ9 := Lib.hid hq; have HB9 := Lib.hid (hb _ _ HA.out.a HSr.out.b); clear hq hk hb)
      refine bodyPost_ret (results_ct rfl _ _ w.heap.size 30 _ (0, 0) _ rfl HZ9.out Try.underlying30 rfl (by kernel_rfl)) rfl ?_
      exact ⟨none, 0, by rw [HR2.out]; rfl, by rw [HR2.out]; exact Kd.C_nil _ _, by rw [HR2.out]; exact Nat.le_refl _, HB9.out⟩
    | true =>
      have HR2 : Hid (readE s = (⟨7, b.1, b0.1, 0, 0, 0, 0, 0, 0, ⟨#[]⟩, 0, false, []⟩, 0)) := Lib.hid (by rw [HRD.out, if_pos rfl, if_pos hri])
      have HRI := Lib.hid ((right_calls ⟨7, b.1, b0.1, 0, 0, 0, 0, 0, 0, ⟨#[]⟩, 0, false, []⟩ none 0 w8c (Kd.C_nil _ _) HOK.out.ws).mono fun r w' (h : r = .returned (.bool (rightE ⟨7, b.1, b0.1, 0, 0, 0, 0, 0, 0, ⟨#[]⟩, 0, false, []⟩)) ∧ Below w8c.heap.size w8c w') => (⟨by rw [h.1, hri], h.2⟩ : r = .returned (.bool true) ∧ Below w8c.heap.size w8c w'))
      have HRV := Lib.hid hri
      clear hri
      go_wp2_with (first | ((with_reducible refine gate_dst (N := 86) rfl ?_); refine wpList_load_row rfl 30 (.tmp 5) rfl b3 rfl 30 _ (0, 0) _ HS8.out.q Try.underlying30 rfl (by kernel_rfl) ?_) | ((with_reducible refine gate_dst (N := 86) rfl ?_); refine gate_guard (by rfl) ?_; refine wpList_load_row rfl 30 (.tmp 5) rfl b3 rfl 30 _ (0, 0) _ HS8.out.q Try.underlying30 rfl (by kernel_rfl) ?_))
      refine HRI.out.mono ?_
      rintro e wr ⟨rfl, hBr⟩
      have HSr := Lib.hid (HS8.out.below hBr)
      clear hBr
      have x12 := (blk_cell HSr.out.q 12).trans (show _ = some (.slice none 0 0) from rfl)
      go_wp2_with fail
      refine (clip_calls none 0 0 _ (Nat.le_refl _) (by decide) (fun _ => ⟨rfl, rfl⟩)).mono ?_
      rintro e wx ⟨rfl, hwx⟩
      subst hwx
      clear x12
      go_wp2_with (first | ((with_reducible refine gate_store (t := 28) (p := 94) (v := .tmp 93) rfl ?_); refine store_ev2 (P := Try.prog) rfl 28 (.tmp 94) (.tmp 93) rfl rfl b3 12 (.slice none 0 0) #[(.slice none 0 0)] rfl rfl rfl 30 _ #[(.int .i64 7), (.int .u32 b.1), (.int .u32 b0.1), (.int .u64 0), (.int .u32 0), (.int .u64 0), (.int .u32 0), (.int .u64 0), (.int .u32 0), (.string ⟨#[]⟩), (.int .u8 0), (.bool false), (.slice none 0 0)] HSr.out.q (by kernel_rfl) (by show 12 + 1 ≤ 13; decide) (by kernel_rfl) (by kernel_rfl) ?_; intro wy hq hk hb; have HSx := Lib.hid (HSr.out.store HA.out hq hk hb); clear hq hk hb) | ((with_reducible refine gate_dst (N := 95) rfl ?_); refine wpList_load_row rfl 30 (.tmp 5) rfl b3 rfl 30 _ (0, 0) _ HSx.out.q Try.underlying30 rfl (by kernel_rfl) ?_) | ((with_reducible refine gate_store (t := 30) (p := 2) (v := .tmp 95) rfl ?_); refine store_ev2 (P := Try.prog) rfl 30 (.tmp 2) (.tmp 95) rfl rfl w.heap.size 0 (.agg #[(.int .i64 7), (.int .u32 b.1), (.int .u32 b0.1), (.int .u64 0), (.int .u32 0), (.int .u64 0), (.int .u32 0), (.int .u64 0), (.int .u32 0), (.string ⟨#[]⟩), (.int .u8 0), (.bool false), (.slice none 0 0)]) #[(.int .i64 7), (.int .u32 b.1), (.int .u32 b0.1), (.int .u64 0), (.int .u32 0), (.int .u64 0), (.int .u32 0), (.int .u64 0), (.int .u32 0), (.string ⟨#[]⟩), (.int .u8 0), (.bool false), (.slice none 0 0)] rfl rfl rfl 30 _ #[(.int .i64 7), (.int .u32 b.1), (.int .u32 b0.1), (.int .u64 0), (.int .u32 0), (.int .u64 0), (.int .u32 0), (.int .u64 0), (.int .u32 0), (.string ⟨#[]⟩), (.int .u8 0), (.bool false), (.slice none 0 0)] HSx.out.z (by kernel_rfl) (by show 0 + 13 ≤ 13; decide) (by kernel_rfl) (by kernel_rfl) ?_; intro w19 hq hk hb; have HZ9 := Lib.hid hq; have HB9 := Lib.hid (hb _ _ HA.out.a HSx.out.b); clear hq hk hb))
      refine bodyPost_ret (results_ct rfl _ _ w.heap.size 30 _ (0, 0) _ rfl HZ9.out Try.underlying30 rfl (by kernel_rfl)) rfl ?_
      exact ⟨none, 0, by rw [HR2.out]; rfl, by rw [HR2.out]; exact Kd.C_nil _ _, by rw [HR2.out]; exact Nat.le_refl _, HB9.out⟩
  · have HR2 : Hid (readE s = (zE, 2)) := Lib.hid (by rw [HRD.out, if_neg he])
    have heb : (en == 0) = false := by simpa using he
    have heb2 : (en != 0) = true := by simpa using he
    go_wp2_with ((with_reducible refine gate_store (t := 30) (p := 2) (v := .tmp 90) rfl ?_); refine store_ev2 (P := Try.prog) rfl 30 (.tmp 2) (.tmp 90) rfl rfl w.heap.size 0 (.agg #[(.int .i64 0), (.int .u32 0), (.int .u32 0), (.int .u64 0), (.int .u32 0), (.int .u64 0), (.int .u32 0), (.int .u64 0), (.int .u32 0), (.string ⟨#[]⟩), (.int .u8 0), (.bool false), (.slice none 0 0)]) #[(.int .i64 0), (.int .u32 0), (.int .u32 0), (.int .u64 0), (.int .u32 0), (.int .u64 0), (.int .u32 0), (.int .u64 0), (.int .u32 0), (.string ⟨#[]⟩), (.int .u8 0), (.bool false), (.slice none 0 0)] rfl rfl rfl 30 _ #[(.int .i64 0), (.int .u32 0), (.int .u32 0), (.int .u64 0), (.int .u32 0), (.int .u64 0), (.int .u32 0), (.int .u64 0), (.int .u32 0), (.string ⟨#[]⟩), (.int .u8 0), (.bool false), (.slice none 0 0)] HS8.out.z (by kernel_rfl) (by show 0 + 13 ≤ 13; decide) (by kernel_rfl) (by kernel_rfl) ?_; intro w19 hq hk hb; have HZ9 := Lib.hid hq; have HB9 := Lib.hid (hb _ _ HA.out.a HS8.out.b); clear hq hk hb)
    refine bodyPost_ret (results_ct rfl _ _ w.heap.size 30 _ (0, 0) _ rfl HZ9.out Try.underlying30 rfl (by kernel_rfl)) rfl ?_
    exact ⟨none, 0, by rw [HR2.out]; rfl, by rw [HR2.out]; exact Kd.C_nil _ _, by rw [HR2.out]; exact Nat.le_refl _, HB9.out⟩
set_option maxRecDepth 100000 in
set_option maxHeartbeats 16000000 in
theorem read_8 (s : ByteArray) (hs : s.size ≤ 9223372036854775807) (w : World) (hk : (rdNum s 0 9).1 = 8) : Calls Try.prog 11 #[.string s] w (ReadP s w) := by
  have HX0 := Lib.hid (heap_alloc_new w (.cells #[(.int .i64 0), (.int .u32 0), (.int .u32 0), (.int .u64 0), (.int .u32 0), (.int .u64 0), (.int .u32 0), (.int .u64 0), (.int .u32 0), (.string ⟨#[]⟩), (.int .u8 0), (.bool false), (.slice none 0 0)] 30))
  have HB0 := Lib.hid (below_alloc' (Below.refl _ w) (.cells #[(.int .i64 0), (.int .u32 0), (.int .u32 0), (.int .u64 0), (.int .u32 0), (.int .u64 0), (.int .u32 0), (.int .u64 0), (.int .u32 0), (.string ⟨#[]⟩), (.int .u8 0), (.bool false), (.slice none 0 0)] 30))
  go_enter Try.func11, Try.ntmps11
  go_wp2_with fail
  refine (rnew s HB0.out).mono ?_
  rintro e w1 ⟨g, rfl, hI, hB, hb1, hge⟩
  have HX1 := Lib.hid ((hb1.block _ (lt_at2 HX0.out)).trans HX0.out)
  have HN2 : Hid (w.heap.size ≠ g) := Lib.hid (by have := lt_at2 HX0.out; omega)
  have HI1 := Lib.hid hI
  have HB1 := Lib.hid hB
  clear hI hB hb1 hge HX0 HB0
  go_wp2_with fail
  refine (rnumber w _ g s 0 9 (by decide) (by decide) HI1.out HB1.out).mono ?_
  rintro e w2 ⟨rfl, hl⟩
  have hkk := hk
  have za := rdNum_facts s 0 9 (by decide)
  obtain ⟨a, ha⟩ : ∃ x, x = rdNum s 0 9 := ⟨_, rfl⟩
  rw [← ha] at hl za hk ⊢
  have EA := Lib.hid ha
  have zaz := za.2.2
  rw [hk]
  have HK0 := Lib.hid hk
  clear ha hk hkk za
  have h2 := blk_keep HX1.out hl.2.2 HN2.out
  have h3 := heap_alloc_new w2 (.cells #[(.int .i64 0), (.int .u32 0), (.int .u32 0), (.int .u64 0), (.int .u32 0), (.int .u64 0), (.int .u32 0), (.int .u64 0), (.int .u32 0), (.string ⟨#[]⟩), (.int .u8 0), (.bool false), (.slice none 0 0)] 30)
  have hg1 := lt_at2 hl.1.1
  have h22 := lt_at2 h2
  have HA : Hid (PUt w g w.heap.size w2.heap.size) := Lib.hid ⟨Nat.le_refl _, by have := hl.2.1.size; omega, HN2.out, by omega, by omega⟩
  have HS1 : Hid (PSu w g w.heap.size w2.heap.size #[(.int .i64 0), (.int .u32 0), (.int .u32 0), (.int .u64 0), (.int .u32 0), (.int .u64 0), (.int .u32 0), (.int .u64 0), (.int .u32 0), (.string ⟨#[]⟩), (.int .u8 0), (.bool false), (.slice none 0 0)] a.2.1 a.2.2 #[(.int .i64 0), (.int .u32 0), (.int .u32 0), (.int .u64 0), (.int .u32 0), (.int .u64 0), (.int .u32 0), (.int .u64 0), (.int .u32 0), (.string ⟨#[]⟩), (.int .u8 0), (.bool false), (.slice none 0 0)] (w2.alloc (.cells #[(.int .i64 0), (.int .u32 0), (.int .u32 0), (.int .u64 0), (.int .u32 0), (.int .u64 0), (.int .u32 0), (.int .u64 0), (.int .u32 0), (.string ⟨#[]⟩), (.int .u8 0), (.bool false), (.slice none 0 0)] 30))) := Lib.hid ⟨hl.1.alloc _, below_alloc' hl.2.1 _, blk_alloc h2 _, h3⟩
  clear hl h2 h3 hg1 h22 HX1 HN2 HI1 HB1
  go_wp2_with ((with_reducible refine gate_store (t := 30) (p := 5) (v := .tmp 12) rfl ?_); refine store_ev2 (P := Try.prog) rfl 30 (.tmp 5) (.tmp 12) rfl rfl w2.heap.size 0 (.agg #[(.int .i64 8), (.int .u32 0), (.int .u32 0), (.int .u64 0), (.int .u32 0), (.int .u64 0), (.int .u32 0), (.int .u64 0), (.int .u32 0), (.string ⟨#[]⟩), (.int .u8 0), (.bool false), (.slice none 0 0)]) #[(.int .i64 8), (.int .u32 0), (.int .u32 0), (.int .u64 0), (.int .u32 0), (.int .u64 0), (.int .u32 0), (.int .u64 0), (.int .u32 0), (.string ⟨#[]⟩), (.int .u8 0), (.bool false), (.slice none 0 0)] rfl rfl rfl 30 _ #[(.int .i64 8), (.int .u32 0), (.int .u32 0), (.int .u64 0), (.int .u32 0), (.int .u64 0), (.int .u32 0), (.int .u64 0), (.int .u32 0), (.string ⟨#[]⟩), (.int .u8 0), (.bool false), (.slice none 0 0)] HS1.out.q (by kernel_rfl) (by show 0 + 13 ≤ 13; decide) (by kernel_rfl) (by kernel_rfl) ?_; intro w2s hq hk hb; have HS2 := Lib.hid (HS1.out.store HA.out hq hk hb); have x0 := (blk_cell HS2.out.q 0).trans (show _ = some (.int .i64 8) from rfl); clear hq hk hb)
  clear HS1
  generalize w2.heap.size = b3 at *
  refine (fieldsB_calls 8 73 (by rfl) _).mono ?_
  rintro e w3 ⟨rfl, hb⟩
  have HS3 := Lib.hid (HS2.out.below hb)
  clear hb HS2 x0
  have b1 : bits .and .i64 73 1 = 1 := by kernel_rfl
  have b2 : bits .and .i64 73 2 = 0 := by kernel_rfl
  have b4 : bits .and .i64 73 4 = 0 := by kernel_rfl
  have b8 : bits .and .i64 73 8 = 8 := by kernel_rfl
  have b16 : bits .and .i64 73 16 = 0 := by kernel_rfl
  have b32 : bits .and .i64 73 32 = 0 := by kernel_rfl
  have b64 : bits .and .i64 73 64 = 64 := by kernel_rfl
  have b128 : bits .and .i64 73 128 = 0 := by kernel_rfl
  have b256 : bits .and .i64 73 256 = 0 := by kernel_rfl
  go_wp2_with fail
  refine (rnumber w _ g _ _ 4294967295 (by decide) (by decide) HS3.out.i HS3.out.b).mono ?_
  rintro e w4c ⟨rfl, hl⟩
  have zb := rdNum_facts a.2.1 a.2.2 4294967295 (by decide)
  obtain ⟨b, hb⟩ : ∃ x, x = rdNum a.2.1 a.2.2 4294967295 := ⟨_, rfl⟩
  rw [← hb] at hl zb ⊢
  have EB := Lib.hid hb
  clear hb
  have HS4 := Lib.hid (HS3.out.call HA.out hl)
  clear hl HS3 
  have hwb : b.1 % 4294967296 = b.1 := Int.emod_eq_of_lt zb.1 (by omega)
  go_wp2_with ((with_reducible refine gate_store (t := 22) (p := 23) (v := .tmp 21) rfl ?_); refine store_ev2 (P := Try.prog) rfl 22 (.tmp 23) (.tmp 21) rfl rfl b3 1 (.int .u32 b.1) #[(.int .u32 b.1)] rfl rfl rfl 30 _ #[(.int .i64 8), (.int .u32 b.1), (.int .u32 0), (.int .u64 0), (.int .u32 0), (.int .u64 0), (.int .u32 0), (.int .u64 0), (.int .u32 0), (.string ⟨#[]⟩), (.int .u8 0), (.bool false), (.slice none 0 0)] HS4.out.q (by kernel_rfl) (by show 1 + 1 ≤ 13; decide) (by kernel_rfl) (by kernel_rfl) ?_; intro w5s hq hk hb; have HS5 := Lib.hid (HS4.out.store HA.out hq hk hb); clear hq hk hb)
  clear HS4 
  refine (rnumber w _ g _ _ 4294967295 (by decide) (by decide) HS5.out.i HS5.out.b).mono ?_
  rintro e w6c ⟨rfl, hl⟩
  have zb0 := rdNum_facts b.2.1 b.2.2 4294967295 (by decide)
  obtain ⟨b0, hb0⟩ : ∃ x, x = rdNum b.2.1 b.2.2 4294967295 := ⟨_, rfl⟩
  rw [← hb0] at hl zb0 ⊢
  have EB0 := Lib.hid hb0
  clear hb0
  have HS6 := Lib.hid (HS5.out.call HA.out hl)
  clear hl HS5 
  have hwb0 : b0.1 % 4294967296 = b0.1 := Int.emod_eq_of_lt zb0.1 (by omega)
  go_wp2_with ((with_reducible refine gate_store (t := 22) (p := 28) (v := .tmp 26) rfl ?_); refine store_ev2 (P := Try.prog) rfl 22 (.tmp 28) (.tmp 26) rfl rfl b3 2 (.int .u32 b0.1) #[(.int .u32 b0.1)] rfl rfl rfl 30 _ #[(.int .i64 8), (.int .u32 b.1), (.int .u32 b0.1), (.int .u64 0), (.int .u32 0), (.int .u64 0), (.int .u32 0), (.int .u64 0), (.int .u32 0), (.string ⟨#[]⟩), (.int .u8 0), (.bool false), (.slice none 0 0)] HS6.out.q (by kernel_rfl) (by show 2 + 1 ≤ 13; decide) (by kernel_rfl) (by kernel_rfl) ?_; intro w7s hq hk hb; have HS7 := Lib.hid (HS6.out.store HA.out hq hk hb); clear hq hk hb)
  clear HS6 
  refine (rstamp HS7.out.i HS7.out.b).mono ?_
  rintro e w8c ⟨rfl, hl⟩
  have zf := stamp_sz b0.2.1 b0.2.2
  obtain ⟨f, hf⟩ : ∃ x, x = rdStamp b0.2.1 b0.2.2 := ⟨_, rfl⟩
  rw [← hf] at hl zf ⊢
  have EF := Lib.hid hf
  clear hf
  have HS8 := Lib.hid (HS7.out.call HA.out hl)
  clear hl HS7 
  go_wp2_with ((with_reducible refine gate_store (t := 27) (p := 46) (v := .tmp 45) rfl ?_); refine store_ev2 (P := Try.prog) rfl 27 (.tmp 46) (.tmp 45) rfl rfl b3 5 (.agg #[.int .u64 f.1, .int .u32 f.2.1]) #[(.int .u64 f.1), (.int .u32 f.2.1)] rfl rfl rfl 30 _ #[(.int .i64 8), (.int .u32 b.1), (.int .u32 b0.1), (.int .u64 0), (.int .u32 0), (.int .u64 f.1), (.int .u32 f.2.1), (.int .u64 0), (.int .u32 0), (.string ⟨#[]⟩), (.int .u8 0), (.bool false), (.slice none 0 0)] HS8.out.q (by kernel_rfl) (by show 5 + 2 ≤ 13; decide) (by kernel_rfl) (by kernel_rfl) ?_; intro w9s hq hk hb; have HS9 := Lib.hid (HS8.out.store HA.out hq hk hb); clear hq hk hb)
  clear HS8 
  refine ((list_calls 1 (by decide) (by omega) HS9.out.i HS9.out.b : Calls _ _ #[_, .int .i64 1] _ _)).mono ?_
  unfold ListP
  rintro e w10c ⟨v, rfl, hR, hl⟩
  have zl := lst_sz rdW w_sz 1 f.2.2.1 f.2.2.2
  have hll := lst_len rdW 1 f.2.2.1 f.2.2.2
  obtain ⟨l, hl0⟩ : ∃ x, x = lstR rdW 1 f.2.2.1 f.2.2.2 := ⟨_, rfl⟩
  rw [← hl0] at hl zl hll hR
  have EL := Lib.hid hl0
  have HLL := Lib.hid hll
  clear hl0 hll
  obtain ⟨A, cc, rfl, hcc, _⟩ := Kd.R_reads hR
  have HCL := Lib.hid (R_clip hR)
  have HR10 := Lib.hid hR
  have HS10 := Lib.hid (HS9.out.call HA.out hl)
  clear hl hR HS9
  go_wp2_with ((with_reducible refine gate_store (t := 28) (p := 68) (v := .tmp 67) rfl ?_); refine store_ev2 (P := Try.prog) rfl 28 (.tmp 68) (.tmp 67) rfl rfl b3 12 (.slice A l.1.length cc) #[(.slice A l.1.length cc)] rfl rfl rfl 30 _ #[(.int .i64 8), (.int .u32 b.1), (.int .u32 b0.1), (.int .u64 0), (.int .u32 0), (.int .u64 f.1), (.int .u32 f.2.1), (.int .u64 0), (.int .u32 0), (.string ⟨#[]⟩), (.int .u8 0), (.bool false), (.slice A l.1.length cc)] HS10.out.q (by kernel_rfl) (by show 12 + 1 ≤ 13; decide) (by kernel_rfl) (by kernel_rfl) ?_; intro w11s hq hk hb; have HS11 := Lib.hid (HS10.out.store HA.out hq hk hb); have HR11 := Lib.hid (R_thru2 HR10.out HS10.out.q (by decide) hk); clear hq hk hb)
  clear HS10 HR10
  refine (rend HS11.out.i HS11.out.b).mono ?_
  rintro e w12c ⟨rfl, hl⟩
  have HR12 := Lib.hid (R_thru2 HR11.out HS11.out.i.1 (by decide) hl.2.2)
  have HS12 := Lib.hid (HS11.out.call HA.out hl)
  clear hl HS11 HR11
  obtain ⟨en, hen⟩ : ∃ en, en = rdEnd l.2.1 l.2.2 := ⟨_, rfl⟩
  rw [← hen]
  have HEN := Lib.hid hen
  clear hen
  have HRD : Hid (readE s = if en = 0 then (if rightE ⟨8, b.1, b0.1, 0, 0, f.1, f.2.1, 0, 0, ⟨#[]⟩, 0, false, l.1⟩ = true then (⟨8, b.1, b0.1, 0, 0, f.1, f.2.1, 0, 0, ⟨#[]⟩, 0, false, l.1⟩, 0) else (zE, 2)) else (zE, 2)) := Lib.hid (by
    have hp : rdE s = (⟨8, b.1, b0.1, 0, 0, f.1, f.2.1, 0, 0, ⟨#[]⟩, 0, false, l.1⟩, l.2.1, l.2.2) := by
      unfold rdE rdTail orX rdX
      rw [← EA.out, HK0.out]
      simp [hB, hS, hM, hA, hW, hT, hD, lstR, ← EB.out, ← EB0.out, ← EF.out, ← EL.out]
    unfold readE
    rw [hp, ← HEN.out])
  have HOK : Hid (EOk ⟨8, b.1, b0.1, 0, 0, f.1, f.2.1, 0, 0, ⟨#[]⟩, 0, false, l.1⟩) := Lib.hid (by
    have hp : (rdTail 8 a.2.1 a.2.2).1 = ⟨8, b.1, b0.1, 0, 0, f.1, f.2.1, 0, 0, ⟨#[]⟩, 0, false, l.1⟩ := by
      unfold rdTail orX rdX
      simp [hB, hS, hM, hA, hW, hT, hD, lstR, ← EB.out, ← EB0.out, ← EF.out, ← EL.out]
    rw [← hp]
    exact tailOk _ (by decide) _ _)
  rcases (show en = 0 ∨ en ≠ 0 from by omega) with he | he
  · subst he
    have HCC : Hid (Kd.C k54 w12c A l.1.length l.1 ∧ l.1.length ≤ cc) := Lib.hid ⟨(Kd.R_reads' HR12.out).2.2, (Kd.R_reads' HR12.out).2.1⟩
    cases hri : rightE ⟨8, b.1, b0.1, 0, 0, f.1, f.2.1, 0, 0, ⟨#[]⟩, 0, false, l.1⟩ with
    | false =>
      have HR2 : Hid (readE s = (zE, 2)) := Lib.hid (by rw [HRD.out, if_pos rfl, if_neg (by rw [hri]; decide)])
      have HRI := Lib.hid ((right_calls ⟨8, b.1, b0.1, 0, 0, f.1, f.2.1, 0, 0, ⟨#[]⟩, 0, false, l.1⟩ A cc w12c HCC.out.1 HOK.out.ws).mono fun r w' (h : r = .returned (.bool (rightE ⟨8, b.1, b0.1, 0, 0, f.1, f.2.1, 0, 0, ⟨#[]⟩, 0, false, l.1⟩)) ∧ Below w12c.heap.size w12c w') => (⟨by rw [h.1, hri], h.2⟩ : r = .returned (.bool false) ∧ Below w12c.heap.size w12c w'))
      have HRV := Lib.hid hri
      clear hri
      go_wp2_with (first | ((with_reducible refine gate_dst (N := 86) rfl ?_); refine wpList_load_row rfl 30 (.tmp 5) rfl b3 rfl 30 _ (0, 0) _ HS12.out.q Try.underlying30 rfl (by kernel_rfl) ?_) | ((with_reducible refine gate_dst (N := 86) rfl ?_); refine gate_guard (by rfl) ?_; refine wpList_load_row rfl 30 (.tmp 5) rfl b3 rfl 30 _ (0, 0) _ HS12.out.q Try.underlying30 rfl (by kernel_rfl) ?_))
      refine HRI.out.mono ?_
      rintro e wr ⟨rfl, hBr⟩
      have HSr := Lib.hid (HS12.out.below hBr)
      have HRr := Lib.hid (Kd.R_below HR12.out hBr)
      clear hBr
      go_wp2_with ((with_reducible refine gate_store (t := 30) (p := 2) (v := .tmp 90) rfl ?_); refine store_ev2 (P := Try.prog) rfl 30 (.tmp 2) (.tmp 90) rfl rfl w.heap.size 0 (.agg #[(.int .i64 0), (.int .u32 0), (.int .u32 0), (.int .u64 0), (.int .u32 0), (.int .u64 0), (.int .u32 0), (.int .u64 0), (.int .u32 0), (.string ⟨#[]⟩), (.int .u8 0), (.bool false), (.slice none 0 0)]) #[(.int .i64 0), (.int .u32 0), (.int .u32 0), (.int .u64 0), (.int .u32 0), (.int .u64 0), (.int .u32 0), (.int .u64 0), (.int .u32 0), (.string ⟨#[]⟩), (.int .u8 0), (.bool false), (.slice none 0 0)] rfl rfl rfl 30 _ #[(.int .i64 0), (.int .u32 0), (.int .u32 0), (.int .u64 0), (.int .u32 0), (.int .u64 0), (.int .u32 0), (.int .u64 0), (.int .u32 0), (.string ⟨#[]⟩), (.int .u8 0), (.bool false), (.slice none 0 0)] HSr.out.z (by kernel_rfl) (by show 0 + 13 ≤ 13; decide) (by kernel_rfl) (by kernel_rfl) ?_; intro w19 hq hk hb; have HZ9 := Lib.hid hq; have HB9 := Lib.hid (hb _ _ HA.out.a HSr.out.b); clear hq hk hb)
      refine bodyPost_ret (results_ct rfl _ _ w.heap.size 30 _ (0, 0) _ rfl HZ9.out Try.underlying30 rfl (by kernel_rfl)) rfl ?_
      exact ⟨none, 0, by rw [HR2.out]; rfl, by rw [HR2.out]; exact Kd.C_nil _ _, by rw [HR2.out]; exact Nat.le_refl _, HB9.out⟩
    | true =>
      have HR2 : Hid (readE s = (⟨8, b.1, b0.1, 0, 0, f.1, f.2.1, 0, 0, ⟨#[]⟩, 0, false, l.1⟩, 0)) := Lib.hid (by rw [HRD.out, if_pos rfl, if_pos hri])
      have HRI := Lib.hid ((right_calls ⟨8, b.1, b0.1, 0, 0, f.1, f.2.1, 0, 0, ⟨#[]⟩, 0, false, l.1⟩ A cc w12c HCC.out.1 HOK.out.ws).mono fun r w' (h : r = .returned (.bool (rightE ⟨8, b.1, b0.1, 0, 0, f.1, f.2.1, 0, 0, ⟨#[]⟩, 0, false, l.1⟩)) ∧ Below w12c.heap.size w12c w') => (⟨by rw [h.1, hri], h.2⟩ : r = .returned (.bool true) ∧ Below w12c.heap.size w12c w'))
      have HRV := Lib.hid hri
      clear hri
      go_wp2_with (first | ((with_reducible refine gate_dst (N := 86) rfl ?_); refine wpList_load_row rfl 30 (.tmp 5) rfl b3 rfl 30 _ (0, 0) _ HS12.out.q Try.underlying30 rfl (by kernel_rfl) ?_) | ((with_reducible refine gate_dst (N := 86) rfl ?_); refine gate_guard (by rfl) ?_; refine wpList_load_row rfl 30 (.tmp 5) rfl b3 rfl 30 _ (0, 0) _ HS12.out.q Try.underlying30 rfl (by kernel_rfl) ?_))
      refine HRI.out.mono ?_
      rintro e wr ⟨rfl, hBr⟩
      have HSr := Lib.hid (HS12.out.below hBr)
      have HRr := Lib.hid (Kd.R_below HR12.out hBr)
      clear hBr
      have x12 := (blk_cell HSr.out.q 12).trans (show _ = some (.slice A l.1.length cc) from rfl)
      go_wp2_with fail
      refine (clip_calls A l.1.length cc _ HCC.out.2 HCL.out.1 HCL.out.2).mono ?_
      rintro e wx ⟨rfl, hwx⟩
      subst hwx
      clear x12
      go_wp2_with (first | ((with_reducible refine gate_store (t := 28) (p := 94) (v := .tmp 93) rfl ?_); refine store_ev2 (P := Try.prog) rfl 28 (.tmp 94) (.tmp 93) rfl rfl b3 12 (.slice A l.1.length l.1.length) #[(.slice A l.1.length l.1.length)] rfl rfl rfl 30 _ #[(.int .i64 8), (.int .u32 b.1), (.int .u32 b0.1), (.int .u64 0), (.int .u32 0), (.int .u64 f.1), (.int .u32 f.2.1), (.int .u64 0), (.int .u32 0), (.string ⟨#[]⟩), (.int .u8 0), (.bool false), (.slice A l.1.length l.1.length)] HSr.out.q (by kernel_rfl) (by show 12 + 1 ≤ 13; decide) (by kernel_rfl) (by kernel_rfl) ?_; intro wy hq hk hb; have HSx := Lib.hid (HSr.out.store HA.out hq hk hb); have HRx := Lib.hid (R_thru2 HRr.out HSr.out.q (by decide) hk); clear hq hk hb) | ((with_reducible refine gate_dst (N := 95) rfl ?_); refine wpList_load_row rfl 30 (.tmp 5) rfl b3 rfl 30 _ (0, 0) _ HSx.out.q Try.underlying30 rfl (by kernel_rfl) ?_) | ((with_reducible refine gate_store (t := 30) (p := 2) (v := .tmp 95) rfl ?_); refine store_ev2 (P := Try.prog) rfl 30 (.tmp 2) (.tmp 95) rfl rfl w.heap.size 0 (.agg #[(.int .i64 8), (.int .u32 b.1), (.int .u32 b0.1), (.int .u64 0), (.int .u32 0), (.int .u64 f.1), (.int .u32 f.2.1), (.int .u64 0), (.int .u32 0), (.string ⟨#[]⟩), (.int .u8 0), (.bool false), (.slice A l.1.length l.1.length)]) #[(.int .i64 8), (.int .u32 b.1), (.int .u32 b0.1), (.int .u64 0), (.int .u32 0), (.int .u64 f.1), (.int .u32 f.2.1), (.int .u64 0), (.int .u32 0), (.string ⟨#[]⟩), (.int .u8 0), (.bool false), (.slice A l.1.length l.1.length)] rfl rfl rfl 30 _ #[(.int .i64 8), (.int .u32 b.1), (.int .u32 b0.1), (.int .u64 0), (.int .u32 0), (.int .u64 f.1), (.int .u32 f.2.1), (.int .u64 0), (.int .u32 0), (.string ⟨#[]⟩), (.int .u8 0), (.bool false), (.slice A l.1.length l.1.length)] HSx.out.z (by kernel_rfl) (by show 0 + 13 ≤ 13; decide) (by kernel_rfl) (by kernel_rfl) ?_; intro w19 hq hk hb; have HZ9 := Lib.hid hq; have HB9 := Lib.hid (hb _ _ HA.out.a HSx.out.b); have HRz := Lib.hid (R_thru2 HRx.out HSx.out.z (by decide) hk); clear hq hk hb))
      refine bodyPost_ret (results_ct rfl _ _ w.heap.size 30 _ (0, 0) _ rfl HZ9.out Try.underlying30 rfl (by kernel_rfl)) rfl ?_
      exact ⟨A, l.1.length, by rw [HR2.out]; rfl, by rw [HR2.out]; exact (Kd.R_reads' HRz.out).2.2, by rw [HR2.out]; exact Nat.le_refl _, HB9.out⟩
  · have HR2 : Hid (readE s = (zE, 2)) := Lib.hid (by rw [HRD.out, if_neg he])
    have heb : (en == 0) = false := by simpa using he
    have heb2 : (en != 0) = true := by simpa using he
    go_wp2_with ((with_reducible refine gate_store (t := 30) (p := 2) (v := .tmp 90) rfl ?_); refine store_ev2 (P := Try.prog) rfl 30 (.tmp 2) (.tmp 90) rfl rfl w.heap.size 0 (.agg #[(.int .i64 0), (.int .u32 0), (.int .u32 0), (.int .u64 0), (.int .u32 0), (.int .u64 0), (.int .u32 0), (.int .u64 0), (.int .u32 0), (.string ⟨#[]⟩), (.int .u8 0), (.bool false), (.slice none 0 0)]) #[(.int .i64 0), (.int .u32 0), (.int .u32 0), (.int .u64 0), (.int .u32 0), (.int .u64 0), (.int .u32 0), (.int .u64 0), (.int .u32 0), (.string ⟨#[]⟩), (.int .u8 0), (.bool false), (.slice none 0 0)] rfl rfl rfl 30 _ #[(.int .i64 0), (.int .u32 0), (.int .u32 0), (.int .u64 0), (.int .u32 0), (.int .u64 0), (.int .u32 0), (.int .u64 0), (.int .u32 0), (.string ⟨#[]⟩), (.int .u8 0), (.bool false), (.slice none 0 0)] HS12.out.z (by kernel_rfl) (by show 0 + 13 ≤ 13; decide) (by kernel_rfl) (by kernel_rfl) ?_; intro w19 hq hk hb; have HZ9 := Lib.hid hq; have HB9 := Lib.hid (hb _ _ HA.out.a HS12.out.b); clear hq hk hb)
    refine bodyPost_ret (results_ct rfl _ _ w.heap.size 30 _ (0, 0) _ rfl HZ9.out Try.underlying30 rfl (by kernel_rfl)) rfl ?_
    exact ⟨none, 0, by rw [HR2.out]; rfl, by rw [HR2.out]; exact Kd.C_nil _ _, by rw [HR2.out]; exact Nat.le_refl _, HB9.out⟩
set_option maxRecDepth 100000 in
set_option maxHeartbeats 16000000 in
theorem read_9 (s : ByteArray) (hs : s.size ≤ 9223372036854775807) (w : World) (hk : (rdNum s 0 9).1 = 9) : Calls Try.prog 11 #[.string s] w (ReadP s w) := by
  have HX0 := Lib.hid (heap_alloc_new w (.cells #[(.int .i64 0), (.int .u32 0), (.int .u32 0), (.int .u64 0), (.int .u32 0), (.int .u64 0), (.int .u32 0), (.int .u64 0), (.int .u32 0), (.string ⟨#[]⟩), (.int .u8 0), (.bool false), (.slice none 0 0)] 30))
  have HB0 := Lib.hid (below_alloc' (Below.refl _ w) (.cells #[(.int .i64 0), (.int .u32 0), (.int .u32 0), (.int .u64 0), (.int .u32 0), (.int .u64 0), (.int .u32 0), (.int .u64 0), (.int .u32 0), (.string ⟨#[]⟩), (.int .u8 0), (.bool false), (.slice none 0 0)] 30))
  go_enter Try.func11, Try.ntmps11
  go_wp2_with fail
  refine (rnew s HB0.out).mono ?_
  rintro e w1 ⟨g, rfl, hI, hB, hb1, hge⟩
  have HX1 := Lib.hid ((hb1.block _ (lt_at2 HX0.out)).trans HX0.out)
  have HN2 : Hid (w.heap.size ≠ g) := Lib.hid (by have := lt_at2 HX0.out; omega)
  have HI1 := Lib.hid hI
  have HB1 := Lib.hid hB
  clear hI hB hb1 hge HX0 HB0
  go_wp2_with fail
  refine (rnumber w _ g s 0 9 (by decide) (by decide) HI1.out HB1.out).mono ?_
  rintro e w2 ⟨rfl, hl⟩
  have hkk := hk
  have za := rdNum_facts s 0 9 (by decide)
  obtain ⟨a, ha⟩ : ∃ x, x = rdNum s 0 9 := ⟨_, rfl⟩
  rw [← ha] at hl za hk ⊢
  have EA := Lib.hid ha
  have zaz := za.2.2
  rw [hk]
  have HK0 := Lib.hid hk
  clear ha hk hkk za
  have h2 := blk_keep HX1.out hl.2.2 HN2.out
  have h3 := heap_alloc_new w2 (.cells #[(.int .i64 0), (.int .u32 0), (.int .u32 0), (.int .u64 0), (.int .u32 0), (.int .u64 0), (.int .u32 0), (.int .u64 0), (.int .u32 0), (.string ⟨#[]⟩), (.int .u8 0), (.bool false), (.slice none 0 0)] 30)
  have hg1 := lt_at2 hl.1.1
  have h22 := lt_at2 h2
  have HA : Hid (PUt w g w.heap.size w2.heap.size) := Lib.hid ⟨Nat.le_refl _, by have := hl.2.1.size; omega, HN2.out, by omega, by omega⟩
  have HS1 : Hid (PSu w g w.heap.size w2.heap.size #[(.int .i64 0), (.int .u32 0), (.int .u32 0), (.int .u64 0), (.int .u32 0), (.int .u64 0), (.int .u32 0), (.int .u64 0), (.int .u32 0), (.string ⟨#[]⟩), (.int .u8 0), (.bool false), (.slice none 0 0)] a.2.1 a.2.2 #[(.int .i64 0), (.int .u32 0), (.int .u32 0), (.int .u64 0), (.int .u32 0), (.int .u64 0), (.int .u32 0), (.int .u64 0), (.int .u32 0), (.string ⟨#[]⟩), (.int .u8 0), (.bool false), (.slice none 0 0)] (w2.alloc (.cells #[(.int .i64 0), (.int .u32 0), (.int .u32 0), (.int .u64 0), (.int .u32 0), (.int .u64 0), (.int .u32 0), (.int .u64 0), (.int .u32 0), (.string ⟨#[]⟩), (.int .u8 0), (.bool false), (.slice none 0 0)] 30))) := Lib.hid ⟨hl.1.alloc _, below_alloc' hl.2.1 _, blk_alloc h2 _, h3⟩
  clear hl h2 h3 hg1 h22 HX1 HN2 HI1 HB1
  go_wp2_with ((with_reducible refine gate_store (t := 30) (p := 5) (v := .tmp 12) rfl ?_); refine store_ev2 (P := Try.prog) rfl 30 (.tmp 5) (.tmp 12) rfl rfl w2.heap.size 0 (.agg #[(.int .i64 9), (.int .u32 0), (.int .u32 0), (.int .u64 0), (.int .u32 0), (.int .u64 0), (.int .u32 0), (.int .u64 0), (.int .u32 0), (.string ⟨#[]⟩), (.int .u8 0), (.bool false), (.slice none 0 0)]) #[(.int .i64 9), (.int .u32 0), (.int .u32 0), (.int .u64 0), (.int .u32 0), (.int .u64 0), (.int .u32 0), (.int .u64 0), (.int .u32 0), (.string ⟨#[]⟩), (.int .u8 0), (.bool false), (.slice none 0 0)] rfl rfl rfl 30 _ #[(.int .i64 9), (.int .u32 0), (.int .u32 0), (.int .u64 0), (.int .u32 0), (.int .u64 0), (.int .u32 0), (.int .u64 0), (.int .u32 0), (.string ⟨#[]⟩), (.int .u8 0), (.bool false), (.slice none 0 0)] HS1.out.q (by kernel_rfl) (by show 0 + 13 ≤ 13; decide) (by kernel_rfl) (by kernel_rfl) ?_; intro w2s hq hk hb; have HS2 := Lib.hid (HS1.out.store HA.out hq hk hb); have x0 := (blk_cell HS2.out.q 0).trans (show _ = some (.int .i64 9) from rfl); clear hq hk hb)
  clear HS1
  generalize w2.heap.size = b3 at *
  refine (fieldsB_calls 9 395 (by rfl) _).mono ?_
  rintro e w3 ⟨rfl, hb⟩
  have HS3 := Lib.hid (HS2.out.below hb)
  clear hb HS2 x0
  have b1 : bits .and .i64 395 1 = 1 := by kernel_rfl
  have b2 : bits .and .i64 395 2 = 2 := by kernel_rfl
  have b4 : bits .and .i64 395 4 = 0 := by kernel_rfl
  have b8 : bits .and .i64 395 8 = 8 := by kernel_rfl
  have b16 : bits .and .i64 395 16 = 0 := by kernel_rfl
  have b32 : bits .and .i64 395 32 = 0 := by kernel_rfl
  have b64 : bits .and .i64 395 64 = 0 := by kernel_rfl
  have b128 : bits .and .i64 395 128 = 128 := by kernel_rfl
  have b256 : bits .and .i64 395 256 = 256 := by kernel_rfl
  go_wp2_with fail
  refine (rnumber w _ g _ _ 4294967295 (by decide) (by decide) HS3.out.i HS3.out.b).mono ?_
  rintro e w4c ⟨rfl, hl⟩
  have zb := rdNum_facts a.2.1 a.2.2 4294967295 (by decide)
  obtain ⟨b, hb⟩ : ∃ x, x = rdNum a.2.1 a.2.2 4294967295 := ⟨_, rfl⟩
  rw [← hb] at hl zb ⊢
  have EB := Lib.hid hb
  clear hb
  have HS4 := Lib.hid (HS3.out.call HA.out hl)
  clear hl HS3 
  have hwb : b.1 % 4294967296 = b.1 := Int.emod_eq_of_lt zb.1 (by omega)
  go_wp2_with ((with_reducible refine gate_store (t := 22) (p := 23) (v := .tmp 21) rfl ?_); refine store_ev2 (P := Try.prog) rfl 22 (.tmp 23) (.tmp 21) rfl rfl b3 1 (.int .u32 b.1) #[(.int .u32 b.1)] rfl rfl rfl 30 _ #[(.int .i64 9), (.int .u32 b.1), (.int .u32 0), (.int .u64 0), (.int .u32 0), (.int .u64 0), (.int .u32 0), (.int .u64 0), (.int .u32 0), (.string ⟨#[]⟩), (.int .u8 0), (.bool false), (.slice none 0 0)] HS4.out.q (by kernel_rfl) (by show 1 + 1 ≤ 13; decide) (by kernel_rfl) (by kernel_rfl) ?_; intro w5s hq hk hb; have HS5 := Lib.hid (HS4.out.store HA.out hq hk hb); clear hq hk hb)
  clear HS4 
  refine (rnumber w _ g _ _ 4294967295 (by decide) (by decide) HS5.out.i HS5.out.b).mono ?_
  rintro e w6c ⟨rfl, hl⟩
  have zb0 := rdNum_facts b.2.1 b.2.2 4294967295 (by decide)
  obtain ⟨b0, hb0⟩ : ∃ x, x = rdNum b.2.1 b.2.2 4294967295 := ⟨_, rfl⟩
  rw [← hb0] at hl zb0 ⊢
  have EB0 := Lib.hid hb0
  clear hb0
  have HS6 := Lib.hid (HS5.out.call HA.out hl)
  clear hl HS5 
  have hwb0 : b0.1 % 4294967296 = b0.1 := Int.emod_eq_of_lt zb0.1 (by omega)
  go_wp2_with ((with_reducible refine gate_store (t := 22) (p := 28) (v := .tmp 26) rfl ?_); refine store_ev2 (P := Try.prog) rfl 22 (.tmp 28) (.tmp 26) rfl rfl b3 2 (.int .u32 b0.1) #[(.int .u32 b0.1)] rfl rfl rfl 30 _ #[(.int .i64 9), (.int .u32 b.1), (.int .u32 b0.1), (.int .u64 0), (.int .u32 0), (.int .u64 0), (.int .u32 0), (.int .u64 0), (.int .u32 0), (.string ⟨#[]⟩), (.int .u8 0), (.bool false), (.slice none 0 0)] HS6.out.q (by kernel_rfl) (by show 2 + 1 ≤ 13; decide) (by kernel_rfl) (by kernel_rfl) ?_; intro w7s hq hk hb; have HS7 := Lib.hid (HS6.out.store HA.out hq hk hb); clear hq hk hb)
  clear HS6 
  refine (rstamp HS7.out.i HS7.out.b).mono ?_
  rintro e w8c ⟨rfl, hl⟩
  have zc := stamp_sz b0.2.1 b0.2.2
  obtain ⟨c, hc⟩ : ∃ x, x = rdStamp b0.2.1 b0.2.2 := ⟨_, rfl⟩
  rw [← hc] at hl zc ⊢
  have EC := Lib.hid hc
  clear hc
  have HS8 := Lib.hid (HS7.out.call HA.out hl)
  clear hl HS7 
  go_wp2_with ((with_reducible refine gate_store (t := 27) (p := 34) (v := .tmp 33) rfl ?_); refine store_ev2 (P := Try.prog) rfl 27 (.tmp 34) (.tmp 33) rfl rfl b3 3 (.agg #[.int .u64 c.1, .int .u32 c.2.1]) #[(.int .u64 c.1), (.int .u32 c.2.1)] rfl rfl rfl 30 _ #[(.int .i64 9), (.int .u32 b.1), (.int .u32 b0.1), (.int .u64 c.1), (.int .u32 c.2.1), (.int .u64 0), (.int .u32 0), (.int .u64 0), (.int .u32 0), (.string ⟨#[]⟩), (.int .u8 0), (.bool false), (.slice none 0 0)] HS8.out.q (by kernel_rfl) (by show 3 + 2 ≤ 13; decide) (by kernel_rfl) (by kernel_rfl) ?_; intro w9s hq hk hb; have HS9 := Lib.hid (HS8.out.store HA.out hq hk hb); clear hq hk hb)
  clear HS8 
  refine (rstamp HS9.out.i HS9.out.b).mono ?_
  rintro e w10c ⟨rfl, hl⟩
  have zf := stamp_sz c.2.2.1 c.2.2.2
  obtain ⟨f, hf⟩ : ∃ x, x = rdStamp c.2.2.1 c.2.2.2 := ⟨_, rfl⟩
  rw [← hf] at hl zf ⊢
  have EF := Lib.hid hf
  clear hf
  have HS10 := Lib.hid (HS9.out.call HA.out hl)
  clear hl HS9 
  go_wp2_with ((with_reducible refine gate_store (t := 27) (p := 46) (v := .tmp 45) rfl ?_); refine store_ev2 (P := Try.prog) rfl 27 (.tmp 46) (.tmp 45) rfl rfl b3 5 (.agg #[.int .u64 f.1, .int .u32 f.2.1]) #[(.int .u64 f.1), (.int .u32 f.2.1)] rfl rfl rfl 30 _ #[(.int .i64 9), (.int .u32 b.1), (.int .u32 b0.1), (.int .u64 c.1), (.int .u32 c.2.1), (.int .u64 f.1), (.int .u32 f.2.1), (.int .u64 0), (.int .u32 0), (.string ⟨#[]⟩), (.int .u8 0), (.bool false), (.slice none 0 0)] HS10.out.q (by kernel_rfl) (by show 5 + 2 ≤ 13; decide) (by kernel_rfl) (by kernel_rfl) ?_; intro w11s hq hk hb; have HS11 := Lib.hid (HS10.out.store HA.out hq hk hb); clear hq hk hb)
  clear HS10 
  refine (rnumber w _ g _ _ 255 (by decide) (by decide) HS11.out.i HS11.out.b).mono ?_
  rintro e w12c ⟨rfl, hl⟩
  have zm := rdNum_facts f.2.2.1 f.2.2.2 255 (by decide)
  obtain ⟨m, hm⟩ : ∃ x, x = rdNum f.2.2.1 f.2.2.2 255 := ⟨_, rfl⟩
  rw [← hm] at hl zm ⊢
  have EM := Lib.hid hm
  clear hm
  have HS12 := Lib.hid (HS11.out.call HA.out hl)
  clear hl HS11 
  have hwm : m.1 % 256 = m.1 := Int.emod_eq_of_lt zm.1 (by omega)
  go_wp2_with ((with_reducible refine gate_store (t := 5) (p := 75) (v := .tmp 74) rfl ?_); refine store_ev2 (P := Try.prog) rfl 5 (.tmp 75) (.tmp 74) rfl rfl b3 10 (.int .u8 m.1) #[(.int .u8 m.1)] rfl rfl rfl 30 _ #[(.int .i64 9), (.int .u32 b.1), (.int .u32 b0.1), (.int .u64 c.1), (.int .u32 c.2.1), (.int .u64 f.1), (.int .u32 f.2.1), (.int .u64 0), (.int .u32 0), (.string ⟨#[]⟩), (.int .u8 m.1), (.bool false), (.slice none 0 0)] HS12.out.q (by kernel_rfl) (by show 10 + 1 ≤ 13; decide) (by kernel_rfl) (by kernel_rfl) ?_; intro w13s hq hk hb; have HS13 := Lib.hid (HS12.out.store HA.out hq hk hb); clear hq hk hb)
  clear HS12 
  refine (rflag HS13.out.i HS13.out.b).mono ?_
  rintro e w14c ⟨rfl, hl⟩
  have zq := flag_sz m.2.1 m.2.2
  obtain ⟨q, hq⟩ : ∃ x, x = rdFlag m.2.1 m.2.2 := ⟨_, rfl⟩
  rw [← hq] at hl zq ⊢
  have EQ := Lib.hid hq
  clear hq
  have HS14 := Lib.hid (HS13.out.call HA.out hl)
  clear hl HS13 
  go_wp2_with ((with_reducible refine gate_store (t := 4) (p := 81) (v := .tmp 80) rfl ?_); refine store_ev2 (P := Try.prog) rfl 4 (.tmp 81) (.tmp 80) rfl rfl b3 11 (.bool q.1) #[(.bool q.1)] rfl rfl rfl 30 _ #[(.int .i64 9), (.int .u32 b.1), (.int .u32 b0.1), (.int .u64 c.1), (.int .u32 c.2.1), (.int .u64 f.1), (.int .u32 f.2.1), (.int .u64 0), (.int .u32 0), (.string ⟨#[]⟩), (.int .u8 m.1), (.bool q.1), (.slice none 0 0)] HS14.out.q (by kernel_rfl) (by show 11 + 1 ≤ 13; decide) (by kernel_rfl) (by kernel_rfl) ?_; intro w15s hq hk hb; have HS15 := Lib.hid (HS14.out.store HA.out hq hk hb); clear hq hk hb)
  clear HS14 
  refine (rend HS15.out.i HS15.out.b).mono ?_
  rintro e w16c ⟨rfl, hl⟩
  have HS16 := Lib.hid (HS15.out.call HA.out hl)
  clear hl HS15 
  obtain ⟨en, hen⟩ : ∃ en, en = rdEnd q.2.1 q.2.2 := ⟨_, rfl⟩
  rw [← hen]
  have HEN := Lib.hid hen
  clear hen
  have HRD : Hid (readE s = if en = 0 then (if rightE ⟨9, b.1, b0.1, c.1, c.2.1, f.1, f.2.1, 0, 0, ⟨#[]⟩, m.1, q.1, []⟩ = true then (⟨9, b.1, b0.1, c.1, c.2.1, f.1, f.2.1, 0, 0, ⟨#[]⟩, m.1, q.1, []⟩, 0) else (zE, 2)) else (zE, 2)) := Lib.hid (by
    have hp : rdE s = (⟨9, b.1, b0.1, c.1, c.2.1, f.1, f.2.1, 0, 0, ⟨#[]⟩, m.1, q.1, []⟩, q.2.1, q.2.2) := by
      unfold rdE rdTail orX rdX
      rw [← EA.out, HK0.out]
      simp [hB, hS, hM, hA, hW, hT, hD, lstR, ← EB.out, ← EB0.out, ← EC.out, ← EF.out, ← EM.out, ← EQ.out]
    unfold readE
    rw [hp, ← HEN.out])
  have HOK : Hid (EOk ⟨9, b.1, b0.1, c.1, c.2.1, f.1, f.2.1, 0, 0, ⟨#[]⟩, m.1, q.1, []⟩) := Lib.hid (by
    have hp : (rdTail 9 a.2.1 a.2.2).1 = ⟨9, b.1, b0.1, c.1, c.2.1, f.1, f.2.1, 0, 0, ⟨#[]⟩, m.1, q.1, []⟩ := by
      unfold rdTail orX rdX
      simp [hB, hS, hM, hA, hW, hT, hD, lstR, ← EB.out, ← EB0.out, ← EC.out, ← EF.out, ← EM.out, ← EQ.out]
    rw [← hp]
    exact tailOk _ (by decide) _ _)
  rcases (show en = 0 ∨ en ≠ 0 from by omega) with he | he
  · subst he
    cases hri : rightE ⟨9, b.1, b0.1, c.1, c.2.1, f.1, f.2.1, 0, 0, ⟨#[]⟩, m.1, q.1, []⟩ with
    | false =>
      have HR2 : Hid (readE s = (zE, 2)) := Lib.hid (by rw [HRD.out, if_pos rfl, if_neg (by rw [hri]; decide)])
      have HRI := Lib.hid ((right_calls ⟨9, b.1, b0.1, c.1, c.2.1, f.1, f.2.1, 0, 0, ⟨#[]⟩, m.1, q.1, []⟩ none 0 w16c (Kd.C_nil _ _) HOK.out.ws).mono fun r w' (h : r = .returned (.bool (rightE ⟨9, b.1, b0.1, c.1, c.2.1, f.1, f.2.1, 0, 0, ⟨#[]⟩, m.1, q.1, []⟩)) ∧ Below w16c.heap.size w16c w') => (⟨by rw [h.1, hri], h.2⟩ : r = .returned (.bool false) ∧ Below w16c.heap.size w16c w'))
      have HRV := Lib.hid hri
      clear hri
      go_wp2_with (first | ((with_reducible refine gate_dst (N := 86) rfl ?_); refine wpList_load_row rfl 30 (.tmp 5) rfl b3 rfl 30 _ (0, 0) _ HS16.out.q Try.underlying30 rfl (by kernel_rfl) ?_) | ((with_reducible refine gate_dst (N := 86) rfl ?_); refine gate_guard (by rfl) ?_; refine wpList_load_row rfl 30 (.tmp 5) rfl b3 rfl 30 _ (0, 0) _ HS16.out.q Try.underlying30 rfl (by kernel_rfl) ?_))
      refine HRI.out.mono ?_
      rintro e wr ⟨rfl, hBr⟩
      have HSr := Lib.hid (HS16.out.below hBr)
      clear hBr
      go_wp2_with ((with_reducible refine gate_store (t := 30) (p := 2) (v := .tmp 90) rfl ?_); refine store_ev2 (P := Try.prog) rfl 30 (.tmp 2) (.tmp 90) rfl rfl w.heap.size 0 (.agg #[(.int .i64 0), (.int .u32 0), (.int .u32 0), (.int .u64 0), (.int .u32 0), (.int .u64 0), (.int .u32 0), (.int .u64 0), (.int .u32 0), (.string ⟨#[]⟩), (.int .u8 0), (.bool false), (.slice none 0 0)]) #[(.int .i64 0), (.int .u32 0), (.int .u32 0), (.int .u64 0), (.int .u32 0), (.int .u64 0), (.int .u32 0), (.int .u64 0), (.int .u32 0), (.string ⟨#[]⟩), (.int .u8 0), (.bool false), (.slice none 0 0)] rfl rfl rfl 30 _ #[(.int .i64 0), (.int .u32 0), (.int .u32 0), (.int .u64 0), (.int .u32 0), (.int .u64 0), (.int .u32 0), (.int .u64 0), (.int .u32 0), (.string ⟨#[]⟩), (.int .u8 0), (.bool false), (.slice none 0 0)] HSr.out.z (by kernel_rfl) (by show 0 + 13 ≤ 13; decide) (by kernel_rfl) (by kernel_rfl) ?_; intro w19 hq hk hb; have HZ9 := Lib.hid hq; have HB9 := Lib.hid (hb _ _ HA.out.a HSr.out.b); clear hq hk hb)
      refine bodyPost_ret (results_ct rfl _ _ w.heap.size 30 _ (0, 0) _ rfl HZ9.out Try.underlying30 rfl (by kernel_rfl)) rfl ?_
      exact ⟨none, 0, by rw [HR2.out]; rfl, by rw [HR2.out]; exact Kd.C_nil _ _, by rw [HR2.out]; exact Nat.le_refl _, HB9.out⟩
    | true =>
      have HR2 : Hid (readE s = (⟨9, b.1, b0.1, c.1, c.2.1, f.1, f.2.1, 0, 0, ⟨#[]⟩, m.1, q.1, []⟩, 0)) := Lib.hid (by rw [HRD.out, if_pos rfl, if_pos hri])
      have HRI := Lib.hid ((right_calls ⟨9, b.1, b0.1, c.1, c.2.1, f.1, f.2.1, 0, 0, ⟨#[]⟩, m.1, q.1, []⟩ none 0 w16c (Kd.C_nil _ _) HOK.out.ws).mono fun r w' (h : r = .returned (.bool (rightE ⟨9, b.1, b0.1, c.1, c.2.1, f.1, f.2.1, 0, 0, ⟨#[]⟩, m.1, q.1, []⟩)) ∧ Below w16c.heap.size w16c w') => (⟨by rw [h.1, hri], h.2⟩ : r = .returned (.bool true) ∧ Below w16c.heap.size w16c w'))
      have HRV := Lib.hid hri
      clear hri
      go_wp2_with (first | ((with_reducible refine gate_dst (N := 86) rfl ?_); refine wpList_load_row rfl 30 (.tmp 5) rfl b3 rfl 30 _ (0, 0) _ HS16.out.q Try.underlying30 rfl (by kernel_rfl) ?_) | ((with_reducible refine gate_dst (N := 86) rfl ?_); refine gate_guard (by rfl) ?_; refine wpList_load_row rfl 30 (.tmp 5) rfl b3 rfl 30 _ (0, 0) _ HS16.out.q Try.underlying30 rfl (by kernel_rfl) ?_))
      refine HRI.out.mono ?_
      rintro e wr ⟨rfl, hBr⟩
      have HSr := Lib.hid (HS16.out.below hBr)
      clear hBr
      have x12 := (blk_cell HSr.out.q 12).trans (show _ = some (.slice none 0 0) from rfl)
      go_wp2_with fail
      refine (clip_calls none 0 0 _ (Nat.le_refl _) (by decide) (fun _ => ⟨rfl, rfl⟩)).mono ?_
      rintro e wx ⟨rfl, hwx⟩
      subst hwx
      clear x12
      go_wp2_with (first | ((with_reducible refine gate_store (t := 28) (p := 94) (v := .tmp 93) rfl ?_); refine store_ev2 (P := Try.prog) rfl 28 (.tmp 94) (.tmp 93) rfl rfl b3 12 (.slice none 0 0) #[(.slice none 0 0)] rfl rfl rfl 30 _ #[(.int .i64 9), (.int .u32 b.1), (.int .u32 b0.1), (.int .u64 c.1), (.int .u32 c.2.1), (.int .u64 f.1), (.int .u32 f.2.1), (.int .u64 0), (.int .u32 0), (.string ⟨#[]⟩), (.int .u8 m.1), (.bool q.1), (.slice none 0 0)] HSr.out.q (by kernel_rfl) (by show 12 + 1 ≤ 13; decide) (by kernel_rfl) (by kernel_rfl) ?_; intro wy hq hk hb; have HSx := Lib.hid (HSr.out.store HA.out hq hk hb); clear hq hk hb) | ((with_reducible refine gate_dst (N := 95) rfl ?_); refine wpList_load_row rfl 30 (.tmp 5) rfl b3 rfl 30 _ (0, 0) _ HSx.out.q Try.underlying30 rfl (by kernel_rfl) ?_) | ((with_reducible refine gate_store (t := 30) (p := 2) (v := .tmp 95) rfl ?_); refine store_ev2 (P := Try.prog) rfl 30 (.tmp 2) (.tmp 95) rfl rfl w.heap.size 0 (.agg #[(.int .i64 9), (.int .u32 b.1), (.int .u32 b0.1), (.int .u64 c.1), (.int .u32 c.2.1), (.int .u64 f.1), (.int .u32 f.2.1), (.int .u64 0), (.int .u32 0), (.string ⟨#[]⟩), (.int .u8 m.1), (.bool q.1), (.slice none 0 0)]) #[(.int .i64 9), (.int .u32 b.1), (.int .u32 b0.1), (.int .u64 c.1), (.int .u32 c.2.1), (.int .u64 f.1), (.int .u32 f.2.1), (.int .u64 0), (.int .u32 0), (.string ⟨#[]⟩), (.int .u8 m.1), (.bool q.1), (.slice none 0 0)] rfl rfl rfl 30 _ #[(.int .i64 9), (.int .u32 b.1), (.int .u32 b0.1), (.int .u64 c.1), (.int .u32 c.2.1), (.int .u64 f.1), (.int .u32 f.2.1), (.int .u64 0), (.int .u32 0), (.string ⟨#[]⟩), (.int .u8 m.1), (.bool q.1), (.slice none 0 0)] HSx.out.z (by kernel_rfl) (by show 0 + 13 ≤ 13; decide) (by kernel_rfl) (by kernel_rfl) ?_; intro w19 hq hk hb; have HZ9 := Lib.hid hq; have HB9 := Lib.hid (hb _ _ HA.out.a HSx.out.b); clear hq hk hb))
      refine bodyPost_ret (results_ct rfl _ _ w.heap.size 30 _ (0, 0) _ rfl HZ9.out Try.underlying30 rfl (by kernel_rfl)) rfl ?_
      exact ⟨none, 0, by rw [HR2.out]; rfl, by rw [HR2.out]; exact Kd.C_nil _ _, by rw [HR2.out]; exact Nat.le_refl _, HB9.out⟩
  · have HR2 : Hid (readE s = (zE, 2)) := Lib.hid (by rw [HRD.out, if_neg he])
    have heb : (en == 0) = false := by simpa using he
    have heb2 : (en != 0) = true := by simpa using he
    go_wp2_with ((with_reducible refine gate_store (t := 30) (p := 2) (v := .tmp 90) rfl ?_); refine store_ev2 (P := Try.prog) rfl 30 (.tmp 2) (.tmp 90) rfl rfl w.heap.size 0 (.agg #[(.int .i64 0), (.int .u32 0), (.int .u32 0), (.int .u64 0), (.int .u32 0), (.int .u64 0), (.int .u32 0), (.int .u64 0), (.int .u32 0), (.string ⟨#[]⟩), (.int .u8 0), (.bool false), (.slice none 0 0)]) #[(.int .i64 0), (.int .u32 0), (.int .u32 0), (.int .u64 0), (.int .u32 0), (.int .u64 0), (.int .u32 0), (.int .u64 0), (.int .u32 0), (.string ⟨#[]⟩), (.int .u8 0), (.bool false), (.slice none 0 0)] rfl rfl rfl 30 _ #[(.int .i64 0), (.int .u32 0), (.int .u32 0), (.int .u64 0), (.int .u32 0), (.int .u64 0), (.int .u32 0), (.int .u64 0), (.int .u32 0), (.string ⟨#[]⟩), (.int .u8 0), (.bool false), (.slice none 0 0)] HS16.out.z (by kernel_rfl) (by show 0 + 13 ≤ 13; decide) (by kernel_rfl) (by kernel_rfl) ?_; intro w19 hq hk hb; have HZ9 := Lib.hid hq; have HB9 := Lib.hid (hb _ _ HA.out.a HS16.out.b); clear hq hk hb)
    refine bodyPost_ret (results_ct rfl _ _ w.heap.size 30 _ (0, 0) _ rfl HZ9.out Try.underlying30 rfl (by kernel_rfl)) rfl ?_
    exact ⟨none, 0, by rw [HR2.out]; rfl, by rw [HR2.out]; exact Kd.C_nil _ _, by rw [HR2.out]; exact Nat.le_refl _, HB9.out⟩
theorem read_calls (s : ByteArray) (hs : s.size ≤ 9223372036854775807) (w : World) : Calls Try.prog 11 #[.string s] w (ReadP s w) := by
  have h := rdNum_facts s 0 9 (by decide)
  rcases (show (rdNum s 0 9).1 = 0 ∨ (rdNum s 0 9).1 = 1 ∨ (rdNum s 0 9).1 = 2 ∨ (rdNum s 0 9).1 = 3 ∨ (rdNum s 0 9).1 = 4 ∨ (rdNum s 0 9).1 = 5 ∨ (rdNum s 0 9).1 = 6 ∨ (rdNum s 0 9).1 = 7 ∨ (rdNum s 0 9).1 = 8 ∨ (rdNum s 0 9).1 = 9 by omega) with hk | hk | hk | hk | hk | hk | hk | hk | hk | hk
  · exact read_0 s hs w hk
  · exact read_1 s hs w hk
  · exact read_2 s hs w hk
  · exact read_3 s hs w hk
  · exact read_4 s hs w hk
  · exact read_5 s hs w hk
  · exact read_6 s hs w hk
  · exact read_7 s hs w hk
  · exact read_8 s hs w hk
  · exact read_9 s hs w hk
end Go.Proofs.Ytblabgdkbcphkaa

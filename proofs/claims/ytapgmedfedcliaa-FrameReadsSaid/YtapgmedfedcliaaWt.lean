/- pack.Writer's Text and Bytes: a text is written with its length; all that was written. Conditions: those that each theorem names. -/
import Derived.Test.YtapgmedfedcliaaWn
import Derived.Lib.ConvBytes
set_option linter.unusedVariables false
set_option linter.unusedSimpArgs false
namespace Go.Proofs.Ytapgmedfedcliaa
open Go.RowKit Go.Proofs.YtapgmedfedcliaaW.PrintWords

section
variable {P : Program} (w : World)
/-- Where the new slice lies: on the old row, or in a new block. -/
theorem append_str_at (base : Nat) (t u ty e : TypeId) (i : TypeInfo) (ht : P.underlying t = some (.slice e)) (hu : P.underlying u = some .string) (hi : P.info? e = some i) (hz : i.zero = some (.int .u8 0))
    (hsize : i.size = 1) (hby : i.bytes = 1) (v : Value) (n : Nat) (xs : List Value) (hown : w.ownsRow base e 1 v n xs) (s : ByteArray)
    (h63 : n + s.size ≤ maxLen) (hbytes : n + s.size ≤ 140737488355328) (hbase : base ≤ w.heap.size) {v' : Value} {w' : World} (hr : (Builtin.append_ #[t, u] ty #[v, .string s]).run P w = .ok v' w') :
    v'.ownBlock = v.ownBlock ∨ v'.ownBlock = some w.heap.size := by
  have hsmall : n + s.size ≤ 9223372036854775807 := by simp only [maxLen] at h63; omega
  have hxl : xs.length = n := by simpa using hown.1
  obtain ⟨v2, w2, hr2, _, _, hnil⟩ := Lib.run_append_own_string (P := P) w base t u ty e i ht hu hi hz hsize hby v n xs hown s h63 hbytes hbase
  rw [hr] at hr2
  injection hr2 with hv _
  subst hv
  rcases hown.2 with ⟨rfl, rfl⟩ | ⟨g, cap, cur, rfl, hbg, hg, hnc, hcm, hcs, htake⟩
  · by_cases hm : s.size = 0
    · exact .inl (by rw [hnil.2 ⟨rfl, hm⟩])
    · have h := run_append_nil_string (P := P) w t u ty e i (.int .u8 0) ht hu hi hz s (by omega) (by omega) (by rw [hby]; omega)
      rw [hr] at h
      injection h with h _
      exact .inr (by rw [h]; rfl)
  · by_cases hroom : n + s.size ≤ cap
    · have hcs' : cur.size = cap := by simpa using hcs
      have h := Lib.run_append_room_string (P := P) w t u ty e i ht hu hi hsize g n cap cur hg s hroom (by omega)
      rw [hr] at h
      injection h with h _
      exact .inl (by rw [h]; rfl)
    · have holds : ∀ j u, xs[j]? = some u → w.cell? ((⟨g, 0, none⟩ : Addr).add j) = some u := hown.cells (g := g) rfl
      have h := Lib.run_append_grow_string (P := P) w t u ty e i (.int .u8 0) ht hu hi hz ⟨g, 0, none⟩ n cap xs (by rw [hsize]; simpa using hxl) holds s (by omega) (by omega) (by rw [hby]; exact growslice_fits (by omega) (by omega))
      rw [hr] at h
      injection h with h _
      exact .inr (by rw [h]; rfl)
end

section
variable {P : Program} {ops : Array Oper} {rest : List Oper} {o : Oper} {a : Act} {Q : Exit → Act → World → Prop}
theorem append_str2 {w0 W : World} (base : Nat) (hgd : o.guard = none) (s x : Operand) (t u e : TypeId)
    (ho : o.op = .call { callee := .builtin .append, args := #[s, x], argTypes := #[t, u] })
    (ht : P.underlying t = some (.slice e)) (hu : P.underlying u = some .string) (hinfo : (P.info? e).map (fun i => (i.zero, i.size, i.bytes)) = some (some (.int .u8 0), 1, 1))
    (v : Value) (z y : ByteArray) (hs : a.eval s = v) (hx : a.eval x = .string y)
    (HO : W.ownsRow base e 1 v z.size (nums .u8 (bytesOf z))) (HB : Below base w0 W) (hbase : base ≤ W.heap.size) (hl : z.size + y.size ≤ 140737488355328)
    (h : ∀ v1 w1, w1.ownsRow base e 1 v1 (z ++ y).size (nums .u8 (bytesOf (z ++ y))) → Below base w0 w1 → W.grownBy w1 v.ownBlock → (v1.ownBlock = v.ownBlock ∨ ∃ b, v1.ownBlock = some b ∧ W.heap.size ≤ b) → wpList P ops Q rest (a.put o.dst v1) w1) :
    wpList P ops Q (o :: rest) a W := by
  obtain ⟨i0, hi, hzz⟩ := Option.map_eq_some_iff.1 hinfo
  simp only [Prod.mk.injEq] at hzz
  obtain ⟨hz0, hz1, hz2⟩ := hzz
  refine wpList_plain hgd fun K hK => ?_
  obtain ⟨v1, w1, hr, h2, h3, h4⟩ := Lib.run_append_own_string (P := P) W base t u o.type e i0 ht hu hi hz0 hz1 hz2 v z.size _ HO y (by simp only [maxLen]; omega) hl hbase
  have hat := append_str_at (P := P) W base t u o.type e i0 ht hu hi hz0 hz1 hz2 v z.size _ HO y (by simp only [maxLen]; omega) hl hbase hr
  unfold Oper.wp execOp
  simp only [ho, resolve, invoke, builtin, Sem.run_bind, Sem.run_pure, Result.andThen_ok, List.map_toArray, List.map_cons, List.map_nil, hs, hx, hr]
  refine hK _ _ (h v1 w1 ?_ (HB.grown h3 hbase (own_base HO)) h3 ?_)
  · rw [ByteArray.size_append, bytesOf_append]
    have e : nums .u8 (bytesOf z ++ bytesOf y) = nums .u8 (bytesOf z) ++ Lib.strCells y := by
      simp [nums, Lib.strCells, bytesOf]
    rw [e]
    exact h2
  · rcases hat with hat | hat
    · exact .inl hat
    · exact .inr ⟨_, hat, Nat.le_refl _⟩
end

/-- Number, of whatever number. -/
theorem wnum (w0 w : World) (g : Nat) (s : ByteArray) (n : Int) (h0 : 0 ≤ n) (h1 : n ≤ 18446744073709551615) (hI : IsS60 w0 w g s) (hB : Below w0.heap.size w0 w) (hl : s.size + 9 ≤ 140737488355328) :
    Calls Try.prog 34 #[.pointer (some ⟨g, 0, none⟩), .int .u64 n] w fun e w' => e = .returned (.tuple #[]) ∧ IsS60 w0 w' g (s ++ encB n) ∧ Below w0.heap.size w0 w' ∧ KeepW w w' g := by
  rcases (show n < 248 ∨ 248 ≤ n by omega) with h | h
  · have e : encB n = strOfNums [n] := by unfold encB encN; rw [if_pos h]
    rw [e]
    exact wnum_small w0 w g s n h0 h hI hB hl
  · exact wnum_big w0 w g s n h h1 hI hB hl

set_option maxHeartbeats 2000000 in
theorem wtext (w0 w : World) (g : Nat) (s x : ByteArray) (hI : IsS60 w0 w g s) (hB : Below w0.heap.size w0 w) (hl : s.size + 9 + x.size ≤ 140737488355328) :
    Calls Try.prog 28 #[.pointer (some ⟨g, 0, none⟩), .string x] w fun e w' => e = .returned (.tuple #[]) ∧ IsS60 w0 w' g (s ++ encB x.size ++ x) ∧ Below w0.heap.size w0 w' ∧ KeepW w w' g := by
  have HN := Lib.hid (wnum w0 w g s x.size (by omega) (by omega) hI hB (by omega))
  obtain ⟨u, hu⟩ : ∃ u, u = s ++ encB x.size := ⟨_, rfl⟩
  rw [← hu]
  rw [← hu] at HN
  have hus : u.size + x.size ≤ 140737488355328 := by rw [hu, ByteArray.size_append]; have := encB_size (n := x.size) (by omega); omega
  obtain ⟨z, hz⟩ : ∃ z, z = u ++ x := ⟨_, rfl⟩
  rw [← hz]
  have HZ := Lib.hid hz
  clear hI hB hu hz
  go_enter Try.func28, Try.ntmps28
  go_wp2_with fail
  refine HN.out.mono ?_
  rintro e w1 ⟨rfl, hI1, hB1, hK1⟩
  obtain ⟨v, hb, hg, ho⟩ := hI1
  have hlt : g < w1.heap.size := (Array.getElem?_eq_some_iff.1 hb).1
  have hcell := cell_of_one hb
  have hfree := free_of_one hb
  have HO := Lib.hid ho
  have HB := Lib.hid hB1
  have Hb := Lib.hid hb
  have HK := Lib.hid hK1
  obtain ⟨A, c, rfl⟩ := own_slice ho
  have hbase := hB1.size
  clear ho hB1 hb hK1 HN
  go_wp2_with (at_builtin; refine halt_ ?_)
  refine Lib.hid ?_
  refine append_str2 (w0 := w0) w0.heap.size rfl (.tmp 15) (.tmp 16) 31 9 5 rfl Try.underlying31 Try.underlying9 Try.infoByte (.slice A u.size c) u x rfl rfl HO.out HB.out hbase (by omega) ?_
  intro v1 w2 hown hB2 hgr hat
  rw [← HZ.out] at hown
  obtain ⟨A1, c1, rfl⟩ := own_slice hown
  have Hend := Lib.hid (w_end (w := w) (t := z) Hb.out hg hlt HO.out hown hB2 hgr hat HK.out)
  have hb1 : w2.heap[g]? = some (.cells #[.slice A u.size c] 60 (0, 0)) := (hgr.block g hlt (own_ne_blk HO.out Hb.out (by decide))).trans Hb.out
  have hcell1 := cell_of_one hb1
  have hfree1 := free_of_one hb1
  clear hown hB2 hgr hat hb1 hcell hfree
  go_wp2
  go_end0
  exact ⟨rfl, Hend.out⟩

theorem wbytes (w0 w : World) (g : Nat) (s : ByteArray) (hI : IsS60 w0 w g s) (hB : Below w0.heap.size w0 w) :
    Calls Try.prog 29 #[.pointer (some ⟨g, 0, none⟩)] w fun e w' => e = .returned (.string s) ∧ IsS60 w0 w' g s ∧ Below w0.heap.size w0 w' ∧ KeepW w w' g := by
  have HI := Lib.hid hI
  have HB := Lib.hid hB
  obtain ⟨v, hb, hg, ho⟩ := hI
  have hcell := cell_of_one hb
  have hfree := free_of_one hb
  have hcv : ∀ n, (convert 31 9 v).run Try.prog (w.drewN n) = .ok (.string s) (w.drewN n) := by
    intro n
    have h := own_string (P := Try.prog) (w := w.drewN n) (src := 31) (dst := 9) (e := 5) Try.underlying31 Try.underlying5 Try.underlying9 (show (w.drewN n).ownsRow w0.heap.size 5 1 v s.size (nums .u8 (bytesOf s)) from ho)
    rw [nums_bytesOf] at h
    exact h
  have hcv0 := hcv 0
  have hcv1 : (convert 31 9 v).run Try.prog w = .ok (.string s) w := hcv0
  clear ho hb hB hcv0
  go_enter Try.func29, Try.ntmps29
  go_wp2
  go_ret
  exact ⟨rfl, HI.out, HB.out, KeepW.refl _ _⟩
end Go.Proofs.Ytapgmedfedcliaa

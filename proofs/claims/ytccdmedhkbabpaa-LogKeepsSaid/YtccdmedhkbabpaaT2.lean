/- Texts of this claim, one behind the other: what their heads say. Conditions: those that each theorem names. -/
import Derived.Deep.RegionLaw
import Derived.Deep.AppendLies
import Derived.Test.YtccdmedhkbabpaaT1
set_option linter.unusedVariables false
set_option linter.unusedSimpArgs false
/- The drum's functions, one layer up. Conditions: those that each theorem names. -/
namespace Go.Proofs.Ytccdmedhkbabpaa
open Go.RowKit Go.Proofs.YtccdmedhkbabpaaW.PrintWords

section
variable {X : Nat → Obj → Prop} {w0 w : World} {g : Nat} {room left : Int} {down : Bool} {A : Nat → Ar} {K : Nat → Nat} {V : Nat → Value}
theorem lay_calls (n : Int) (hI : IsD X w0 w g room left down A K V) (hB : Below w0.heap.size w0 w) (hl : -1 ≤ left ∧ left ≤ 9223372036854775807) (hn64 : -9223372036854775808 ≤ n ∧ n ≤ 9223372036854775807) :
    Calls Try.prog 49 #[.pointer (some ⟨g, 0, none⟩), .int .i64 n] w fun e w' => e = .returned (.int .i64 (stepR left down A n layRef layAct).1) ∧ AtD X w0 w' g room (stepR left down A n layRef layAct) := by
  have HS := Lib.hid (step_lay n hI hB hl hn64)
  clear hI hB
  go_enter Try.func49, Try.ntmps49
  go_wp2_with fail
  refine HS.out.mono ?_
  rintro e w1 ⟨rfl, h⟩
  have H := Lib.hid h
  clear h
  go_wp2
  go_ret
  exact ⟨rfl, H.out⟩
theorem cut_calls (n : Int) (hI : IsD X w0 w g room left down A K V) (hB : Below w0.heap.size w0 w) (hl : -1 ≤ left ∧ left ≤ 9223372036854775807) (hn64 : -9223372036854775808 ≤ n ∧ n ≤ 9223372036854775807) :
    Calls Try.prog 29 #[.pointer (some ⟨g, 0, none⟩), .int .i64 n] w fun e w' => e = .returned (.int .i64 (stepR left down A n thereRef cutAct).1) ∧ AtD X w0 w' g room (stepR left down A n thereRef cutAct) := by
  have HS := Lib.hid (step_cut n hI hB hl hn64)
  clear hI hB
  go_enter Try.func29, Try.ntmps29
  go_wp2_with fail
  refine HS.out.mono ?_
  rintro e w1 ⟨rfl, h⟩
  have H := Lib.hid h
  clear h
  go_wp2
  go_ret
  exact ⟨rfl, H.out⟩
theorem sync_calls (n : Int) (hI : IsD X w0 w g room left down A K V) (hB : Below w0.heap.size w0 w) (hl : -1 ≤ left ∧ left ≤ 9223372036854775807) (hn64 : -9223372036854775808 ≤ n ∧ n ≤ 9223372036854775807) :
    Calls Try.prog 61 #[.pointer (some ⟨g, 0, none⟩), .int .i64 n] w fun e w' => e = .returned (.int .i64 (stepR left down A n thereRef syncAct).1) ∧ AtD X w0 w' g room (stepR left down A n thereRef syncAct) := by
  have HS := Lib.hid (step_sync n hI hB hl hn64)
  clear hI hB
  go_enter Try.func61, Try.ntmps61
  go_wp2_with fail
  refine HS.out.mono ?_
  rintro e w1 ⟨rfl, h⟩
  have H := Lib.hid h
  clear h
  go_wp2
  go_ret
  exact ⟨rfl, H.out⟩
theorem new_calls (room : Int) (hr : -9223372036854775808 ≤ room ∧ room ≤ 9223372036854775807) (w0 w : World) (hB : Below w0.heap.size w0 w) :
    Calls Try.prog 9 #[.int .i64 room] w fun e w' => Below w0.heap.size w0 w' ∧ if room < 0 ∨ 1048576 < room then e = .returned (.tuple #[.pointer none, .int .i64 1]) else ∃ g, e = .returned (.tuple #[.pointer (some ⟨g, 0, none⟩), .int .i64 0]) ∧ ∃ K V, IsD NoX w0 w' g room (-1) false (fun _ => none) K V := by
  have HB := Lib.hid hB
  clear hB
  rcases (show room < 0 ∨ (0 ≤ room ∧ 1048576 < room) ∨ (0 ≤ room ∧ room ≤ 1048576) by omega) with h | ⟨h0, h⟩ | ⟨h0, h⟩
  · have HR := Lib.hid (show (room < 0 ∨ 1048576 < room) from .inl h)
    go_enter Try.func9, Try.ntmps9
    go_wp2_with fail
    go_ret2
    exact ⟨HB.out, rfl⟩
  · have HR := Lib.hid (show (room < 0 ∨ 1048576 < room) from .inr h)
    go_enter Try.func9, Try.ntmps9
    go_wp2_with fail
    go_ret2
    exact ⟨HB.out, rfl⟩
  · have HR := Lib.hid (show ¬ (room < 0 ∨ 1048576 < room) by omega)
    go_enter Try.func9, Try.ntmps9
    go_wp2_with fail
    go_ret2
    refine ⟨below_alloc' HB.out _, ?_⟩
    skip
    refine ⟨w.heap.size, rfl, fun _ => 0, fun _ => .slice none 0 0, heap_alloc_new w _, HB.out.size, ?_, ?_, fun k o h => h.elim⟩
    · intro i _ b s e; cases e
    · intro i j _ _ _ e; cases e
def sz (a : Ar) : Nat := match a with
  | none => 0
  | some x => x.1.size
/-- How many bytes the first i areas have. -/
def usedTo (A : Nat → Ar) : Nat → Nat
  | 0 => 0
  | i + 1 => usedTo A i + sz (A i)
set_option maxRecDepth 100000 in
set_option maxHeartbeats 4000000 in
theorem used_calls (hI : IsD X w0 w g room left down A K V) (hB : Below w0.heap.size w0 w) (hu : usedTo A 4 ≤ 9223372036854775807) :
    Calls Try.prog 18 #[.pointer (some ⟨g, 0, none⟩)] w fun e w' => e = .returned (.int .i64 (usedTo A 4 : Int)) ∧ Drawn0 w w' := by
  have c3 := hI.cp 0 (by decide)
  have c4 := hI.cp 1 (by decide)
  have c5 := hI.cp 2 (by decide)
  have c6 := hI.cp 3 (by decide)
  have HI := Lib.hid hI
  have HP : Hid (∀ i, i < 4 → (A i = none ∧ ptr (A i) (K i) = .pointer none ∧ sz (A i) = 0) ∨ (ptr (A i) (K i) = .pointer (some ⟨K i, 0, none⟩) ∧ ∃ (R : Option Addr) (c : Nat), ∀ m, (w.drewN m).cell? ⟨K i, 0, none⟩ = some (.slice R (sz (A i)) c))) := Lib.hid (by
    intro i hi
    cases hA : A i with
    | none => exact .inl ⟨rfl, rfl, rfl⟩
    | some x =>
      obtain ⟨b, s⟩ := x
      obtain ⟨h1, h2, h3⟩ := hI.ha i hi b s hA
      obtain ⟨R, c, hv⟩ := own_slice h3
      refine .inr ⟨rfl, R, c, fun m => ?_⟩
      show w.cell? _ = _
      rw [(blk_cell h1 0).trans rfl, hv]
      rfl)
  clear hI hB
  have hle : ∀ n, n < 4 → usedTo A n + sz (A n) ≤ usedTo A 4 := by
    intro n hn
    rcases (show n = 0 ∨ n = 1 ∨ n = 2 ∨ n = 3 by omega) with rfl | rfl | rfl | rfl <;> simp only [usedTo] <;> omega
  have HU := Lib.hid hu
  have HLE := Lib.hid hle
  clear hu hle
  generalize hp0 : ptr (A 0) (K 0) = p0 at *
  generalize hp1 : ptr (A 1) (K 1) = p1 at *
  generalize hp2 : ptr (A 2) (K 2) = p2 at *
  generalize hp3 : ptr (A 3) (K 3) = p3 at *
  have HP0 := Lib.hid hp0
  have HP1 := Lib.hid hp1
  have HP2 := Lib.hid hp2
  have HP3 := Lib.hid hp3
  clear hp0 hp1 hp2 hp3
  have i0 : ∀ w, (Instr.index 65 (.agg #[p0, p1, p2, p3]) (.int .i64 0)).run Try.prog w = .ok p0 w := fun _ => by kernel_rfl
  have i1 : ∀ w, (Instr.index 65 (.agg #[p0, p1, p2, p3]) (.int .i64 1)).run Try.prog w = .ok p1 w := fun _ => by kernel_rfl
  have i2 : ∀ w, (Instr.index 65 (.agg #[p0, p1, p2, p3]) (.int .i64 2)).run Try.prog w = .ok p2 w := fun _ => by kernel_rfl
  have i3 : ∀ w, (Instr.index 65 (.agg #[p0, p1, p2, p3]) (.int .i64 3)).run Try.prog w = .ok p3 w := fun _ => by kernel_rfl
  go_enter Try.func18, Try.ntmps18
  go_wp2_with fail
  go_loopg [3, 12] 5 (fun gk v3 v12 wx => ∃ (i : Nat), i ≤ 4 ∧ v3 = .int .i64 (usedTo A i : Int) ∧ v12 = .int .i64 (i : Int) ∧ Aside0 (i + gk = 5) ∧ Drawn0 w wx)
  case atStart => exact ⟨0, by decide, rfl, rfl, ⟨by omega⟩, by repeat (first | exact Drawn0.refl _ | apply Drawn0.step)⟩
  case round =>
    obtain ⟨i, hi, rfl, rfl, ⟨hg⟩, ⟨m1, rfl⟩⟩ := hrel
    have HG := Lib.hid hg
    clear hg c3 c4 c5 c6
    rcases (show i = 0 ∨ i = 1 ∨ i = 2 ∨ i = 3 ∨ i = 4 by omega) with rfl | rfl | rfl | rfl | rfl
    · have hle := HLE.out 0 (by decide)
      have HS : Hid (usedTo A 1 = usedTo A 0 + sz (A 0)) := rfl
      have hu := HU.out
      generalize usedTo A 0 = s0 at *
      rcases HP.out 0 (by decide) with ⟨_, hq, hz⟩ | ⟨hq, R, c, hc⟩
      · obtain rfl : p0 = .pointer none := HP0.out.symm.trans hq
        have HZ := Lib.hid hz
        clear hq hz hle hu
        go_wp2
        go_roundg (gk - 1)
        case measure => have := HG.out; omega
        case rel => exact ⟨1, by decide, by rw [HS.out, HZ.out]; rfl, by go_num, ⟨by have := HG.out; omega⟩, by repeat (first | exact Drawn0.refl _ | apply Drawn0.step)⟩
      · obtain rfl : p0 = .pointer (some ⟨K 0, 0, none⟩) := HP0.out.symm.trans hq
        have hc1 := hc m1
        have hw : IntKind.i64.wrap ((s0 : Int) + (sz (A 0) : Int)) = ((s0 + sz (A 0) : Nat) : Int) := by rw [IntKind.wrap_i64]; omega
        clear hq hc
        generalize sz (A 0) = z at *
        go_wp2
        go_roundg (gk - 1)
        case measure => have := HG.out; omega
        case rel => exact ⟨1, by decide, by rw [HS.out]; go_num, by go_num, ⟨by have := HG.out; omega⟩, by repeat (first | exact Drawn0.refl _ | apply Drawn0.step)⟩
    · have hle := HLE.out 1 (by decide)
      have HS : Hid (usedTo A 2 = usedTo A 1 + sz (A 1)) := rfl
      have hu := HU.out
      generalize usedTo A 1 = s0 at *
      rcases HP.out 1 (by decide) with ⟨_, hq, hz⟩ | ⟨hq, R, c, hc⟩
      · obtain rfl : p1 = .pointer none := HP1.out.symm.trans hq
        have HZ := Lib.hid hz
        clear hq hz hle hu
        go_wp2
        go_roundg (gk - 1)
        case measure => have := HG.out; omega
        case rel => exact ⟨2, by decide, by rw [HS.out, HZ.out]; rfl, by go_num, ⟨by have := HG.out; omega⟩, by repeat (first | exact Drawn0.refl _ | apply Drawn0.step)⟩
      · obtain rfl : p1 = .pointer (some ⟨K 1, 0, none⟩) := HP1.out.symm.trans hq
        have hc1 := hc m1
        have hw : IntKind.i64.wrap ((s0 : Int) + (sz (A 1) : Int)) = ((s0 + sz (A 1) : Nat) : Int) := by rw [IntKind.wrap_i64]; omega
        clear hq hc
        generalize sz (A 1) = z at *
        go_wp2
        go_roundg (gk - 1)
        case measure => have := HG.out; omega
        case rel => exact ⟨2, by decide, by rw [HS.out]; go_num, by go_num, ⟨by have := HG.out; omega⟩, by repeat (first | exact Drawn0.refl _ | apply Drawn0.step)⟩
    · have hle := HLE.out 2 (by decide)
      have HS : Hid (usedTo A 3 = usedTo A 2 + sz (A 2)) := rfl
      have hu := HU.out
      generalize usedTo A 2 = s0 at *
      rcases HP.out 2 (by decide) with ⟨_, hq, hz⟩ | ⟨hq, R, c, hc⟩
      · obtain rfl : p2 = .pointer none := HP2.out.symm.trans hq
        have HZ := Lib.hid hz
        clear hq hz hle hu
        go_wp2
        go_roundg (gk - 1)
        case measure => have := HG.out; omega
        case rel => exact ⟨3, by decide, by rw [HS.out, HZ.out]; rfl, by go_num, ⟨by have := HG.out; omega⟩, by repeat (first | exact Drawn0.refl _ | apply Drawn0.step)⟩
      · obtain rfl : p2 = .pointer (some ⟨K 2, 0, none⟩) := HP2.out.symm.trans hq
        have hc1 := hc m1
        have hw : IntKind.i64.wrap ((s0 : Int) + (sz (A 2) : Int)) = ((s0 + sz (A 2) : Nat) : Int) := by rw [IntKind.wrap_i64]; omega
        clear hq hc
        generalize sz (A 2) = z at *
        go_wp2
        go_roundg (gk - 1)
        case measure => have := HG.out; omega
        case rel => exact ⟨3, by decide, by rw [HS.out]; go_num, by go_num, ⟨by have := HG.out; omega⟩, by repeat (first | exact Drawn0.refl _ | apply Drawn0.step)⟩
    · have hle := HLE.out 3 (by decide)
      have HS : Hid (usedTo A 4 = usedTo A 3 + sz (A 3)) := rfl
      have hu := HU.out
      generalize usedTo A 3 = s0 at *
      rcases HP.out 3 (by decide) with ⟨_, hq, hz⟩ | ⟨hq, R, c, hc⟩
      · obtain rfl : p3 = .pointer none := HP3.out.symm.trans hq
        have HZ := Lib.hid hz
        clear hq hz hle hu
        go_wp2
        go_roundg (gk - 1)
        case measure => have := HG.out; omega
        case rel => exact ⟨4, by decide, by rw [HS.out, HZ.out]; rfl, by go_num, ⟨by have := HG.out; omega⟩, by repeat (first | exact Drawn0.refl _ | apply Drawn0.step)⟩
      · obtain rfl : p3 = .pointer (some ⟨K 3, 0, none⟩) := HP3.out.symm.trans hq
        have hc1 := hc m1
        have hw : IntKind.i64.wrap ((s0 : Int) + (sz (A 3) : Int)) = ((s0 + sz (A 3) : Nat) : Int) := by rw [IntKind.wrap_i64]; omega
        clear hq hc
        generalize sz (A 3) = z at *
        go_wp2
        go_roundg (gk - 1)
        case measure => have := HG.out; omega
        case rel => exact ⟨4, by decide, by rw [HS.out]; go_num, by go_num, ⟨by have := HG.out; omega⟩, by repeat (first | exact Drawn0.refl _ | apply Drawn0.step)⟩
    · go_wp2
      go_ret
      exact ⟨rfl, ⟨m1, rfl⟩⟩
end
end Go.Proofs.Ytccdmedhkbabpaa
/- The drum's Write and Read. Conditions: those that each theorem names. -/
namespace Go.Proofs.Ytccdmedhkbabpaa
open Go.RowKit Go.Proofs.YtccdmedhkbabpaaW.PrintWords

section
variable {P : Program} {ops : Array Oper} {o : Oper} {a : Act} {Q : Exit → Act → World → Prop} {Kc : Act → World → Prop} {E : Prop}
theorem step_append_str {w0 W : World} (base : Nat) (hgd : o.guard = none) (s x : Operand) (t u e : TypeId)
    (ho : o.op = .call { callee := .builtin .append, args := #[s, x], argTypes := #[t, u] })
    (ht : P.underlying t = some (.slice e)) (hu : P.underlying u = some .string) (hinfo : (P.info? e).map (fun i => (i.zero, i.size, i.bytes)) = some (some (.int .u8 0), 1, 1))
    (v : Value) (z y : ByteArray) (hs : a.eval s = v) (hx : a.eval x = .string y)
    (HO : W.ownsRow base e 1 v z.size (nums .u8 (bytesOf z))) (HB : Below base w0 W) (hbase : base ≤ W.heap.size) (hl : z.size + y.size ≤ 140737488355328)
    (h : ∀ v1 w1, w1.ownsRow base e 1 v1 (z ++ y).size (nums .u8 (bytesOf (z ++ y))) → Below base w0 w1 → W.grownBy w1 v.ownBlock → (v1.ownBlock = v.ownBlock ∨ ∃ b, v1.ownBlock = some b ∧ W.heap.size ≤ b) → Kc (a.put o.dst v1) w1) :
    if Region.wanted o (yielded ops a.tmps) = true then Oper.wp P o a W Kc Q else E := by
  have hw : Region.wanted o (yielded ops a.tmps) = true := by simp [Region.wanted, hgd]
  rw [if_pos hw]
  obtain ⟨i0, hi, hzz⟩ := Option.map_eq_some_iff.1 hinfo
  simp only [Prod.mk.injEq] at hzz
  obtain ⟨hz0, hz1, hz2⟩ := hzz
  obtain ⟨v1, w1, hr, h2, h3, h4⟩ := Lib.run_append_own_string (P := P) W base t u o.type e i0 ht hu hi hz0 hz1 hz2 v z.size _ HO y (by simp only [maxLen]; omega) hl hbase
  have hat := append_str_at (P := P) W base t u o.type e i0 ht hu hi hz0 hz1 hz2 v z.size _ HO y (by simp only [maxLen]; omega) hl hbase hr
  unfold Oper.wp execOp
  simp only [ho, resolve, invoke, builtin, Sem.run_bind, Sem.run_pure, Result.andThen_ok, List.map_toArray, List.map_cons, List.map_nil, hs, hx, hr]
  refine h v1 w1 ?_ (HB.grown h3 hbase (own_base HO)) h3 ?_
  · rw [ByteArray.size_append, bytesOf_append]
    have e : nums .u8 (bytesOf z ++ bytesOf y) = nums .u8 (bytesOf z) ++ Lib.strCells y := by
      simp [nums, Lib.strCells, bytesOf]
    rw [e]
    exact h2
  · rcases hat with hat | hat
    · exact .inl hat
    · exact .inr ⟨_, hat, Nat.le_refl _⟩
end
section
variable {X : Nat → Obj → Prop} {w0 w : World} {g : Nat} {room left : Int} {down : Bool} {A : Nat → Ar} {K : Nat → Nat} {V : Nat → Value}
/-- What a write is refused for. -/
def writeRef (u len : Nat) (room : Int) (a : Ar) : Int := if a.isSome then (if ((u + len : Nat) : Int) ≤ room then 0 else 10) else 12
def writeAct (s : ByteArray) (a : Ar) : Ar := a.map fun x => (x.1 ++ s, x.2)
set_option maxHeartbeats 2000000 in
theorem write1_calls (bd bs : Nat) (s : ByteArray) (n : Nat) (h1 : w.heap[bd]? = some (.cells #[.pointer (some ⟨g, 0, none⟩)] 25 (0, 0))) (h2 : w.heap[bs]? = some (.cells #[.string s] 9 (0, 0))) (hI : IsD X w0 w g room left down A K V) (hB : Below w0.heap.size w0 w) (hu : usedTo A 4 + s.size ≤ 9223372036854775807) :
    Calls Try.prog 82 #[ptr (A n) (K n), .pointer (some ⟨bd, 0, none⟩), .pointer (some ⟨bs, 0, none⟩)] w fun e w' => e = .returned (.int .i64 (writeRef (usedTo A 4) s.size room (A n))) ∧ Drawn0 w w' := by
  have d1 : w.cell? ⟨bd, 0, none⟩ = some (.pointer (some ⟨g, 0, none⟩)) := (blk_cell h1 0).trans rfl
  have d2 : w.cell? ⟨bs, 0, none⟩ = some (.string s) := (blk_cell h2 0).trans rfl
  have c0 := hI.c0
  have HI := Lib.hid hI
  have HB := Lib.hid hB
  have HT := Lib.hid (there_calls (A n) (K n) w)
  clear hI hB h1 h2
  generalize ptr (A n) (K n) = pv at *
  cases hA : A n with
  | none =>
    rw [hA] at HT
    have HR : Hid (writeRef (usedTo A 4) s.size room none = 12) := rfl
    go_enter Try.func82, Try.ntmps82
    go_wp2_with fail
    refine HT.out.mono ?_
    rintro e w1 ⟨rfl, rfl⟩
    go_wp2_with fail
    go_region
    all_goals go_wp2
    all_goals go_ret
    all_goals exact ⟨by rw [HR.out]; rfl, by first | exact ⟨1, rfl⟩ | exact Drawn0.refl _⟩
  | some x =>
    rw [hA] at HT
    have HU := Lib.hid hu
    have HR : Hid (writeRef (usedTo A 4) s.size room (some x) = if ((usedTo A 4 + s.size : Nat) : Int) ≤ room then 0 else 10) := rfl
    go_enter Try.func82, Try.ntmps82
    go_wp2_with fail
    refine HT.out.mono ?_
    rintro e w1 ⟨rfl, rfl⟩
    clear HT
    have HK : Hid (∀ w', Drawn0 w1 w' → (Drawn0 w1 w' ∧ w'.cell? ⟨bd, 0, none⟩ = some (.pointer (some ⟨g, 0, none⟩)) ∧ w'.cell? ⟨bs, 0, none⟩ = some (.string s) ∧ w'.cell? ⟨g, 0, none⟩ = some (.int .i64 room))) := Lib.hid (by
      rintro w' ⟨m, rfl⟩; exact ⟨⟨m, rfl⟩, d1, d2, c0⟩)
    have HC : Hid (∀ w', Drawn0 w1 w' → Calls Try.prog 18 #[.pointer (some ⟨g, 0, none⟩)] w' fun e w'' => e = .returned (.int .i64 (usedTo A 4 : Int)) ∧ Drawn0 w1 w'') := Lib.hid (by
      rintro w' ⟨m, rfl⟩
      refine (used_calls (w0 := w0) (w := w1.drewN m) (HI.out.move fun _ _ => rfl) (pw_below_drewN HB.out m) (by have := HU.out; omega)).mono ?_
      rintro e w'' ⟨rfl, ⟨m2, rfl⟩⟩
      exact ⟨rfl, m + m2, by simp [World.drewN, Nat.add_assoc]⟩)
    have hw : IntKind.i64.wrap ((usedTo A 4 + s.size : Nat) : Int) = ((usedTo A 4 + s.size : Nat) : Int) := by rw [IntKind.wrap_i64]; omega
    have hww : (usedTo A 4 : Int) + (s.size : Int) = ((usedTo A 4 + s.size : Nat) : Int) := by omega
    generalize hz : usedTo A 4 + s.size = z at *
    have HZ := Lib.hid hz
    clear hz
    generalize huu : usedTo A 4 = uu at *
    have HUU := Lib.hid huu
    clear huu
    go_wp2_with fail
    go_region_held3 (fun w' => Drawn0 w1 w' ∧ w'.cell? ⟨bd, 0, none⟩ = some (.pointer (some ⟨g, 0, none⟩)) ∧ w'.cell? ⟨bs, 0, none⟩ = some (.string s) ∧ w'.cell? ⟨g, 0, none⟩ = some (.int .i64 room)) (first | exact HK.out _ ⟨1, rfl⟩ | exact HK.out _ (by assumption) | go_keep) (first | (go_at_call 18; refine (HC.out _ (by first | assumption | exact And.left (by assumption) | exact ⟨1, rfl⟩)).mono ?_; rintro e w6 ⟨rfl, hD6⟩))
    have HD := Lib.hid hD6
    clear hD6 d1 d2 c0 HC HK
    rcases (show (z : Int) ≤ room ∨ room < (z : Int) by omega) with hzr | hzr
    · rw [if_pos hzr] at HR
      go_wp2
      go_ret
      exact ⟨by rw [HUU.out, HR.out]; rfl, HD.out⟩
    · rw [if_neg (by omega)] at HR
      go_wp2
      go_ret
      exact ⟨by rw [HUU.out, HR.out]; rfl, HD.out⟩
theorem write2_calls (n : Nat) (hn : n < 4) (bs : Nat) (s : ByteArray) (h2 : w.heap[bs]? = some (.cells #[.string s] 9 (0, 0))) {b : ByteArray} {sr : Nat} (hA : A n = some (b, sr)) (hI : IsD X w0 w g room left down A K V) (hB : Below w0.heap.size w0 w) (hu : b.size + s.size ≤ 140737488355328) :
    Calls Try.prog 83 #[.pointer (some ⟨g, 3 + n, none⟩), .pointer (some ⟨bs, 0, none⟩)] w fun e w' => e = .returned (.tuple #[]) ∧ (∃ K' V', IsD X w0 w' g room left down (upd A n (some (b ++ s, sr))) K' V') ∧ Below w0.heap.size w0 w' := by
  have d2 : w.cell? ⟨bs, 0, none⟩ = some (.string s) := (blk_cell h2 0).trans rfl
  have cp0 := hI.cp n hn
  rw [ptr_some hA] at cp0
  obtain ⟨h1, h3, h4⟩ := hI.ha n hn b sr hA
  have c0 : w.cell? ⟨K n, 0, none⟩ = some (V n) := (blk_cell h1 0).trans rfl
  have f0 := blk_frozen h1 0
  obtain ⟨R, c, hv⟩ := own_slice h4
  rw [hv] at c0
  have HI := Lib.hid hI
  have HB := Lib.hid hB
  have H1 := Lib.hid h1
  have H3 := Lib.hid h3
  have H4 := Lib.hid h4
  have HV := Lib.hid hv
  have HA := Lib.hid hA
  clear hI hB h1 h3 h4 h2 hv hA
  generalize hk : K n = kn at *
  have HK := Lib.hid hk
  have HO4 : Hid (w.ownsRow w0.heap.size 5 1 (.slice R b.size c) b.size (nums .u8 (bytesOf b))) := by rw [← HV.out]; exact H4.out
  have HBK : Hid (∀ w3, w.drew.grownBy w3 (Value.slice R b.size c).ownBlock → w3.heap[kn]? = some (.cells #[V n, .int .i64 (sr : Int)] 84 (0, 0))) := Lib.hid (fun w3 hg => (hg.block kn (lt_of_at H1.out) (fun e => row_ne HO4.out H1.out (by decide) kn e.symm rfl)).trans H1.out)
  have HCE : Hid (∀ w3, w.drew.grownBy w3 (Value.slice R b.size c).ownBlock → w3.cell? ⟨kn, 0, none⟩ = some (.slice R b.size c)) := Lib.hid (fun w3 hg => by rw [← HV.out]; exact (blk_cell (HBK.out w3 hg) 0).trans rfl)
  have HCG : Hid (∀ w3, w.drew.grownBy w3 (Value.slice R b.size c).ownBlock → w3.cell? ⟨g, 3 + n, none⟩ = some (.pointer (some ⟨kn, 0, none⟩))) := Lib.hid (fun w3 hg => by
    have hh := (hg.block g (lt_of_at HI.out.hb) (fun e => row_ne HO4.out HI.out.hb (by decide) g e.symm rfl)).trans HI.out.hb
    have := (blk_cell hh (3 + n)).trans (dcells_at _ _ _ _ n hn)
    rw [ptr_some HA.out, HK.out] at this
    exact this)
  have HFR : Hid (∀ w3, w.drew.grownBy w3 (Value.slice R b.size c).ownBlock → w3.frozen? ⟨kn, 0, none⟩ = false) := Lib.hid (fun w3 hg => blk_frozen (HBK.out w3 hg) 0)
  clear hk
  go_enter Try.func83, Try.ntmps83
  go_wp2_with fail
  have HBd := Lib.hid (below_drew1 HB.out)
  go_region_law ((refine step_append_str (w0 := w0) w0.heap.size (by rfl) (.tmp 11) (.tmp 12) 82 9 5 (by rfl) Try.underlying82 Try.underlying9 Try.infoByte (.slice R b.size c) b s (by rfl) (by rfl) (show (w.drew).ownsRow _ _ _ _ _ _ from HO4.out) HBd.out HBd.out.size hu ?_; intro v1 w3 hown3 hB3 hgr3 hat3; obtain ⟨R1, c1, rfl⟩ := own_slice hown3; have hcg3 := HCG.out w3 hgr3; have hce3 : w3.cell? ⟨kn, 0, none⟩ = some (.slice R b.size c) := HCE.out w3 hgr3; have hfr3 : w3.frozen? ⟨kn, 0, none⟩ = false := HFR.out w3 hgr3))
  all_goals (
    have hown4 : w3.ownsRow w0.heap.size 5 1 (.slice R1 (b.size + s.size) c1) (b ++ s).size (nums .u8 (bytesOf (b ++ s))) := by rw [← ByteArray.size_append]; exact hown3
    have HE : Hid (IsD X w0 (w3.setCell ⟨kn, 0, none⟩ (.slice R1 (b.size + s.size) c1)) g room left down (upd A n (some (b ++ s, sr))) K (upd V n (.slice R1 (b.size + s.size) c1))) := Lib.hid (by
      have hk := HK.out
      have hbk := HBK.out w3 hgr3
      refine HI.out.area n hn HA.out (by rw [hk]; exact area_store0 hbk) (own_move hown4 fun k hk2 => Below.heap_setCell w3 ⟨kn, 0, none⟩ _ k (row_ne hown4 hbk (by decide) k hk2)) ?_ ?_
      · rcases hat3 with h | ⟨k, h, h2⟩
        · exact .inl (by rw [HV.out, ← ByteArray.size_append]; exact h)
        · exact .inr (.inr ⟨k, by rw [← ByteArray.size_append]; exact h, h2⟩)
      · intro k hk1 hk2 hk3
        rw [hk] at hk2
        rw [HV.out] at hk3
        exact (Below.heap_setCell w3 ⟨kn, 0, none⟩ _ k hk2).trans (hgr3.block k hk1 hk3))
    have HB3 := Lib.hid (hB3.setCell (p := ⟨kn, 0, none⟩) H3.out (.slice R1 (b.size + s.size) c1))
    clear hown3 hown4 hB3 hgr3 hat3
    go_wp2
    go_end0
    exact ⟨rfl, ⟨_, _, by first | exact HE.out | exact HE.out.drew⟩, by first | exact HB3.out | exact below_drew1 HB3.out⟩)
end
end Go.Proofs.Ytccdmedhkbabpaa
/- The drum's Write, Read, Has and Fall. Conditions: those that each theorem names. -/
namespace Go.Proofs.Ytccdmedhkbabpaa
open Go.RowKit Go.Proofs.YtccdmedhkbabpaaW.PrintWords

theorem strOf_bytes (s : ByteArray) : strOfNums (bytesOf s) = s := bytes_ext (bytesOf_nums _ (bytesOf_bytes s))
theorem sz_le (A : Nat → Ar) (i : Nat) (hi : i < 4) : sz (A i) ≤ usedTo A 4 := by
  rcases (show i = 0 ∨ i = 1 ∨ i = 2 ∨ i = 3 by omega) with rfl | rfl | rfl | rfl <;> simp only [usedTo] <;> omega
section
variable {X : Nat → Obj → Prop} {w0 w : World} {g : Nat} {room left : Int} {down : Bool} {A : Nat → Ar} {K : Nat → Nat} {V : Nat → Value}
set_option maxRecDepth 100000 in
set_option maxHeartbeats 4000000 in
theorem step_write (bd bs : Nat) (s : ByteArray) (n : Int) (hI : IsD X w0 w g room left down A K V) (hB : Below w0.heap.size w0 w) (hl : -1 ≤ left ∧ left ≤ 9223372036854775807) (hn64 : -9223372036854775808 ≤ n ∧ n ≤ 9223372036854775807) (hbd : w.heap[bd]? = some (.cells #[.pointer (some ⟨g, 0, none⟩)] 25 (0, 0))) (hbs : w.heap[bs]? = some (.cells #[.string s] 9 (0, 0))) (hu : usedTo A 4 + s.size ≤ 9223372036854775807) (hrm0 : room ≤ 140737488355328) :
    Calls Try.prog 46 #[.pointer (some ⟨g, 0, none⟩), .int .i64 n, .func (Fn.func 82) #[] #[.pointer (some ⟨bd, 0, none⟩), .pointer (some ⟨bs, 0, none⟩)], .func (Fn.func 83) #[] #[.pointer (some ⟨bs, 0, none⟩)]] w fun e w' => e = .returned (.int .i64 (stepR left down A n (writeRef (usedTo A 4) s.size room) (writeAct s)).1) ∧ AtD X w0 w' g room (stepR left down A n (writeRef (usedTo A 4) s.size room) (writeAct s)) := by
  have HI := Lib.hid hI
  have HB := Lib.hid hB
  have HBD := Lib.hid hbd
  have HBS := Lib.hid hbs
  have HU := Lib.hid hu
  have HR0 := Lib.hid hrm0
  clear hbd hbs hu hrm0
  clear hI hB
  cases down with
  | true =>
    have HR : Hid (stepR left true A n (writeRef (usedTo A 4) s.size room) (writeAct s) = (11, left, true, A)) := Lib.hid (by unfold stepR; rw [if_pos rfl])
    rw [HR.out]
    go_enter Try.func46, Try.ntmps46
    go_wp2_with fail
    refine (down_calls HI.out).mono ?_
    rintro e w1 ⟨rfl, rfl⟩
    go_wp2_with fail
    go_ret
    exact ⟨rfl, ⟨_, _, HI.out⟩, HB.out⟩
  | false =>
    rcases (show (n < 0 ∨ 4 ≤ n) ∨ (0 ≤ n ∧ n < 4) by omega) with hn | ⟨hn0, hn4⟩
    · have HR : Hid (stepR left false A n (writeRef (usedTo A 4) s.size room) (writeAct s) = (1, left, false, A)) := Lib.hid (by unfold stepR; rw [if_neg (by decide), if_pos hn])
      rw [HR.out]
      rcases hn with hn | hn
      ·
        go_enter Try.func46, Try.ntmps46
        go_wp2_with fail
        refine (down_calls HI.out).mono ?_
        rintro e w1 ⟨rfl, rfl⟩
        go_wp2_with fail
        go_ret
        exact ⟨rfl, ⟨_, _, HI.out⟩, HB.out⟩
      ·
        go_enter Try.func46, Try.ntmps46
        go_wp2_with fail
        refine (down_calls HI.out).mono ?_
        rintro e w1 ⟨rfl, rfl⟩
        go_wp2_with fail
        go_ret
        exact ⟨rfl, ⟨_, _, HI.out⟩, HB.out⟩
    · obtain ⟨i, rfl⟩ : ∃ i : Nat, n = (i : Int) := ⟨n.toNat, by omega⟩
      have hi : i < 4 := by omega
      have hcp := HI.out.cp i hi
      have c1 := HI.out.c1
      have f1 := HI.out.f 1
      have c2 := HI.out.c2
      have f2 := HI.out.f 2
      have HS : Hid (stepR left false A (i : Int) (writeRef (usedTo A 4) s.size room) (writeAct s) = if (writeRef (usedTo A 4) s.size room) (A i) ≠ 0 then ((writeRef (usedTo A 4) s.size room) (A i), left, false, A) else if left = 0 then (11, left, true, A) else (0, max (left - 1) (-1), false, upd A i ((writeAct s) (A i)))) := Lib.hid (by unfold stepR; rw [if_neg (by decide), if_neg (by omega), Int.toNat_natCast]; first | done | rfl)
      generalize hst : stepR left false A (i : Int) (writeRef (usedTo A 4) s.size room) (writeAct s) = st at *
      clear hst
      obtain ⟨hl0, hl1⟩ := hl
      have HCP := Lib.hid hcp
      clear hcp hn0
      generalize hpv : ptr (A i) (K i) = pv
      have cp : w.cell? ⟨g, 3 + i, none⟩ = some pv := by rw [← hpv]; exact HCP.out
      have HPV := Lib.hid hpv
      clear hpv HCP
      go_enter Try.func46, Try.ntmps46
      go_wp2_with fail
      refine (down_calls HI.out).mono ?_
      rintro e w1 ⟨rfl, rfl⟩
      go_wp2_with fail
      rw [← HPV.out]
      refine (write1_calls bd bs s i HBD.out HBS.out HI.out HB.out (by have := HU.out; omega)).mono ?_
      rintro e w2 ⟨rfl, ⟨m, rfl⟩⟩
      rw [HPV.out]
      replace HI : Hid (IsD X w0 (w1.drewN m) g room left false A K V) := Lib.hid (HI.out.move fun _ _ => rfl)
      replace HB : Hid (Below w0.heap.size w0 (w1.drewN m)) := Lib.hid (pw_below_drewN HB.out m)
      have c1 := HI.out.c1
      have f1 := HI.out.f 1
      have c2 := HI.out.c2
      have f2 := HI.out.f 2
      have cp : (w1.drewN m).cell? ⟨g, 3 + i, none⟩ = some pv := by rw [← HPV.out]; exact HI.out.cp i hi
      have HBS2 : Hid ((w1.drewN m).heap[bs]? = some (.cells #[.string s] 9 (0, 0))) := HBS.out
      generalize w1.drewN m = w2 at *
      have HSZ := Lib.hid (sz_le A i hi)
      cases hA : A i with
      | none =>
        rw [hA] at HS
        have HA := Lib.hid hA
        have hwr : writeRef (usedTo A 4) s.size room none = 12 := rfl
        clear hA
        have HS2 : Hid (st = (12, left, false, A)) := Lib.hid (by rw [HS.out]; rw [hwr]; rfl)
        clear HS
        go_wp2_with fail
        go_ret
        rw [HS2.out]
        exact ⟨rfl, ⟨_, _, HI.out⟩, HB.out⟩
      | some x =>
        rw [hA] at HS
        have HA := Lib.hid hA
        clear hA
        obtain ⟨b, sr⟩ := x
        rcases (show ((usedTo A 4 + s.size : Nat) : Int) ≤ room ∨ ¬ ((usedTo A 4 + s.size : Nat) : Int) ≤ room by omega) with hrm | hrm
        · have hwr : writeRef (usedTo A 4) s.size room (some (b, sr)) = 0 := if_pos hrm
          have HRM := Lib.hid hrm
          clear hrm
          rcases (show left = 0 ∨ left = -1 ∨ 1 ≤ left by omega) with h0 | h0 | h0
          · subst h0
            have HS2 : Hid (st = (11, 0, true, A)) := Lib.hid (by rw [HS.out]; rw [hwr]; rfl)
            clear HS
            go_wp2_with fail
            go_ret
            rw [HS2.out]
            exact ⟨rfl, ⟨_, _, HI.out.setDown true⟩, HB.out.setCell HI.out.hg _⟩
          · subst h0
            have HS2 : Hid (st = (0, -1, false, upd A i ((writeAct s) (A i)))) := Lib.hid (by rw [HS.out, HA.out, hwr]; rfl)
            have HI2 := Lib.hid (HI.out.setLeft (-1))
            have HB2 := Lib.hid (HB.out.setCell HI.out.hg (p := ⟨g, 1, none⟩) (.int .i64 (-1)))
            clear HS
            have HBS3 := Lib.hid ((Below.heap_setCell w2 ⟨g, 1, none⟩ (.int .i64 (-1)) bs (blk_ty HBS2.out HI.out.hb (by decide))).trans HBS2.out)
            go_wp2_with fail
            refine (write2_calls i hi bs s HBS3.out HA.out HI2.out HB2.out (by have h1 := HRM.out; have h4 := HR0.out; have h2 := HSZ.out; rw [HA.out] at h2; have h3 : b.size ≤ usedTo A 4 := h2; omega)).mono ?_
            rintro e w3 ⟨rfl, h3, h4⟩
            have H3 := Lib.hid h3
            have H4 := Lib.hid h4
            clear h3 h4
            go_wp2_with fail
            go_ret
            rw [HS2.out]
            exact ⟨rfl, by first | exact H3.out | (rw [HA.out]; exact H3.out), H4.out⟩
          · have HS2 : Hid (st = (0, left - 1, false, upd A i ((writeAct s) (A i)))) := Lib.hid (by rw [HS.out, HA.out, show max (left - 1) (-1) = left - 1 by omega]; rw [hwr, if_neg (by decide), if_neg (by omega)])
            have HI2 := Lib.hid (HI.out.setLeft (left - 1))
            have HB2 := Lib.hid (HB.out.setCell HI.out.hg (p := ⟨g, 1, none⟩) (.int .i64 (left - 1)))
            have hm1 : ¬ left = 0 := by omega
            have hm2 : max (left - 1) (-1) = left - 1 := by omega
            have hm3 : (-1 : Int) ≤ left - 1 := by omega
            clear HS
            have HBS3 := Lib.hid ((Below.heap_setCell w2 ⟨g, 1, none⟩ (.int .i64 (left - 1)) bs (blk_ty HBS2.out HI.out.hb (by decide))).trans HBS2.out)
            go_wp2_with fail
            refine (write2_calls i hi bs s HBS3.out HA.out HI2.out HB2.out (by have h1 := HRM.out; have h4 := HR0.out; have h2 := HSZ.out; rw [HA.out] at h2; have h3 : b.size ≤ usedTo A 4 := h2; omega)).mono ?_
            rintro e w3 ⟨rfl, h3, h4⟩
            have H3 := Lib.hid h3
            have H4 := Lib.hid h4
            clear h3 h4
            go_wp2_with fail
            go_ret
            rw [HS2.out]
            exact ⟨rfl, by first | exact H3.out | (rw [HA.out]; exact H3.out), H4.out⟩
        · have hwr : writeRef (usedTo A 4) s.size room (some (b, sr)) = 10 := if_neg hrm
          clear hrm
          have HS2 : Hid (st = (10, left, false, A)) := Lib.hid (by rw [HS.out]; rw [hwr]; rfl)
          clear HS
          go_wp2_with fail
          go_ret
          rw [HS2.out]
          exact ⟨rfl, ⟨_, _, HI.out⟩, HB.out⟩
theorem write_calls (n : Int) (s : ByteArray) (hI : IsD X w0 w g room left down A K V) (hB : Below w0.heap.size w0 w) (hl : -1 ≤ left ∧ left ≤ 9223372036854775807) (hn64 : -9223372036854775808 ≤ n ∧ n ≤ 9223372036854775807) (hu : usedTo A 4 + s.size ≤ 9223372036854775807) (hrm0 : room ≤ 140737488355328) :
    Calls Try.prog 60 #[.pointer (some ⟨g, 0, none⟩), .int .i64 n, .string s] w fun e w' => e = .returned (.int .i64 (stepR left down A n (writeRef (usedTo A 4) s.size room) (writeAct s)).1) ∧ AtD X w0 w' g room (stepR left down A n (writeRef (usedTo A 4) s.size room) (writeAct s)) := by
  have h1 := hI.alloc (.cells #[.pointer (some ⟨g, 0, none⟩)] 25)
  have h2 := h1.alloc (.cells #[.string s] 9)
  have HS := Lib.hid (step_write w.heap.size (w.heap.size + 1) s n h2 (below_alloc' (below_alloc' hB _) _) hl hn64 (((below_alloc (Below.refl (w.alloc (.cells #[.pointer (some ⟨g, 0, none⟩)] 25)).heap.size _) _).block w.heap.size (by simp)).trans (heap_alloc_new w _)) (by have := heap_alloc_new (w.alloc (.cells #[.pointer (some ⟨g, 0, none⟩)] 25)) (.cells #[.string s] 9); simpa using this) hu hrm0)
  clear hI hB h1 h2
  go_enter Try.func60, Try.ntmps60
  go_wp2_with fail
  refine HS.out.mono ?_
  rintro e w1 ⟨rfl, h⟩
  have H := Lib.hid h
  clear h
  go_wp2
  go_ret
  exact ⟨rfl, H.out⟩
/-- What is read: the text, and what it is refused for. -/
def readR (down : Bool) (A : Nat → Ar) (n : Int) : ByteArray × Int :=
  if down then (⟨#[]⟩, 11) else if n < 0 ∨ 4 ≤ n then (⟨#[]⟩, 1) else match A n.toNat with
    | none => (⟨#[]⟩, 12)
    | some x => (x.1, 0)
set_option maxRecDepth 100000 in
set_option maxHeartbeats 4000000 in
theorem read_calls (n : Int) (hI : IsD X w0 w g room left down A K V) (hB : Below w0.heap.size w0 w) (hn64 : -9223372036854775808 ≤ n ∧ n ≤ 9223372036854775807) :
    Calls Try.prog 26 #[.pointer (some ⟨g, 0, none⟩), .int .i64 n] w fun e w' => e = .returned (.tuple #[.string (readR down A n).1, .int .i64 (readR down A n).2]) ∧ IsD X w0 w' g room left down A K V ∧ Below w0.heap.size w0 w' := by
  have HI := Lib.hid hI
  have HB := Lib.hid hB
  clear hI hB
  cases down with
  | true =>
    have HR : Hid (readR true A n = (⟨#[]⟩, 11)) := Lib.hid (by unfold readR; rw [if_pos rfl])
    go_enter Try.func26, Try.ntmps26
    go_wp2_with fail
    refine (down_calls HI.out).mono ?_
    rintro e w1 ⟨rfl, rfl⟩
    go_wp2_with fail
    go_ret2
    exact ⟨by rw [HR.out]; rfl, HI.out, HB.out⟩
  | false =>
    rcases (show n < 0 ∨ 4 ≤ n ∨ (0 ≤ n ∧ n < 4) by omega) with hn | hn | ⟨hn0, hn4⟩
    · have HR : Hid (readR false A n = (⟨#[]⟩, 1)) := Lib.hid (by unfold readR; rw [if_neg (by decide), if_pos (.inl hn)])
      go_enter Try.func26, Try.ntmps26
      go_wp2_with fail
      refine (down_calls HI.out).mono ?_
      rintro e w1 ⟨rfl, rfl⟩
      go_wp2_with fail
      go_ret2
      exact ⟨by rw [HR.out]; rfl, HI.out, HB.out⟩
    · have HR : Hid (readR false A n = (⟨#[]⟩, 1)) := Lib.hid (by unfold readR; rw [if_neg (by decide), if_pos (.inr hn)])
      go_enter Try.func26, Try.ntmps26
      go_wp2_with fail
      refine (down_calls HI.out).mono ?_
      rintro e w1 ⟨rfl, rfl⟩
      go_wp2_with fail
      go_ret2
      exact ⟨by rw [HR.out]; rfl, HI.out, HB.out⟩
    · obtain ⟨i, rfl⟩ : ∃ i : Nat, n = (i : Int) := ⟨n.toNat, by omega⟩
      have hi : i < 4 := by omega
      have HR0 : Hid (readR false A (i : Int) = match A i with
        | none => (⟨#[]⟩, 12)
        | some x => (x.1, 0)) := Lib.hid (by unfold readR; rw [if_neg (by decide), if_neg (by omega), Int.toNat_natCast])
      have cp := HI.out.cp i hi
      clear hn0
      cases hA : A i with
      | none =>
        rw [hA] at HR0
        rw [ptr_none hA] at cp
        have HR : Hid (readR false A (i : Int) = (⟨#[]⟩, 12)) := HR0
        clear hA HR0
        go_enter Try.func26, Try.ntmps26
        go_wp2_with fail
        refine (down_calls HI.out).mono ?_
        rintro e w1 ⟨rfl, rfl⟩
        go_wp2_with fail
        go_ret2
        exact ⟨by rw [HR.out]; rfl, HI.out, HB.out⟩
      | some x =>
        obtain ⟨b, s⟩ := x
        rw [hA] at HR0
        rw [ptr_some hA] at cp
        have HR : Hid (readR false A (i : Int) = (b, 0)) := HR0
        obtain ⟨h1, h2, h3⟩ := HI.out.ha i hi b s hA
        have c0 : w.cell? ⟨K i, 0, none⟩ = some (V i) := (blk_cell h1 0).trans rfl
        obtain ⟨R, c, hv⟩ := own_slice h3
        rw [hv] at c0 h3
        have H3 := Lib.hid h3
        have hcv : ∀ m, (convert 82 9 (.slice R b.size c)).run Try.prog (w.drewN m) = .ok (.string b) (w.drewN m) := by
          intro m
          have h := string_of_reads (P := Try.prog) (w := w.drewN m) (src := 82) (dst := 9) (c := c) Try.underlying82 Try.underlying5 Try.underlying9 (show ReadsInt (w.drewN m) .u8 R b.size (bytesOf b) from own_reads' H3.out)
          rwa [strOf_bytes] at h
        have hcv0 : (convert 82 9 (.slice R b.size c)).run Try.prog w = .ok (.string b) w := hcv 0
        clear hcv
        clear hA HR0 h1 h2 h3 hv
        generalize K i = kn at *
        go_enter Try.func26, Try.ntmps26
        go_wp2_with fail
        refine (down_calls HI.out).mono ?_
        rintro e w1 ⟨rfl, rfl⟩
        go_wp2_with fail
        go_ret2
        exact ⟨by rw [HR.out]; rfl, HI.out, HB.out⟩
end
end Go.Proofs.Ytccdmedhkbabpaa
/- The drum's Fall. Conditions: those that the theorem names. -/
namespace Go.Proofs.Ytccdmedhkbabpaa
open Go.RowKit Go.Proofs.YtccdmedhkbabpaaW.PrintWords

/-- How many pending bytes are kept, of so many. -/
def keepN (xs : List Int) (i : Nat) (pend : Nat) : Nat := if i < xs.length then (min (max (rd xs (i : Int)) 0) (pend : Int)).toNat else 0
def fallA (xs : List Int) (i : Nat) (a : Ar) : Ar := a.map fun x => (x.1.extract 0 (x.2 + keepN xs i (x.1.size - x.2)), (x.1.extract 0 (x.2 + keepN xs i (x.1.size - x.2))).size)
/-- Behind the first i areas. -/
def fallTo (xs : List Int) (A : Nat → Ar) (i : Nat) : Nat → Ar := fun j => if j < i then fallA xs j (A j) else A j
theorem fallTo_zero (xs : List Int) (A : Nat → Ar) : fallTo xs A 0 = A := by funext j; exact if_neg (by omega)
theorem fallTo_at (xs : List Int) (A : Nat → Ar) (i : Nat) : fallTo xs A i i = A i := if_neg (by omega)
theorem fallTo_succ (xs : List Int) (A : Nat → Ar) (i : Nat) : fallTo xs A (i + 1) = upd (fallTo xs A i) i (fallA xs i (A i)) := by
  funext j
  by_cases e : j = i
  · subst e; rw [upd_at]; exact if_pos (by omega)
  · rw [upd_ne _ _ e]
    unfold fallTo
    by_cases h : j < i
    · rw [if_pos (by omega), if_pos h]
    · rw [if_neg (by omega), if_neg h]
theorem fallTo_none (xs : List Int) (A : Nat → Ar) (i : Nat) (h : A i = none) : fallTo xs A (i + 1) = fallTo xs A i := by
  rw [fallTo_succ, h]
  funext j
  by_cases e : j = i
  · subst e; rw [upd_at, fallTo_at, h]; rfl
  · rw [upd_ne _ _ e]
theorem keepN_le (xs : List Int) (i p : Nat) : keepN xs i p ≤ p := by unfold keepN; split <;> omega
theorem nums_take (xs : List Int) (n : Nat) : (nums .u8 xs).take n = nums .u8 (xs.take n) := by simp [nums]
theorem bytesOf_ext0 (b : ByteArray) (n : Nat) : bytesOf (b.extract 0 n) = (bytesOf b).take n := by
  unfold bytesOf
  rw [ByteArray.data_extract]
  simp
section
variable {X : Nat → Obj → Prop} {w0 w : World} {g : Nat} {room left : Int} {down : Bool} {A : Nat → Ar} {K : Nat → Nat} {V : Nat → Value}
/-- An area's slice is made shorter. -/
theorem IsD.shorter (h : IsD X w0 w g room left down A K V) (n : Nat) (hn : n < 4) {b : ByteArray} {s : Nat} {R : Option Addr} {c : Nat} (hA : A n = some (b, s)) (hV : V n = .slice R b.size c) (m : Nat) (hm : m ≤ b.size) :
    IsD X w0 (w.setCell ⟨K n, 0, none⟩ (.slice R m c)) g room left down (upd A n (some (b.extract 0 m, s))) K (upd V n (.slice R m c)) := by
  obtain ⟨h1, h2, h3⟩ := h.ha n hn b s hA
  rw [hV] at h3
  have ho := own_take h3 hm
  have hsz : (b.extract 0 m).size = m := by rw [ByteArray.size_extract]; omega
  have hm2 : ∀ k, k ≠ K n → (w.setCell ⟨K n, 0, none⟩ (.slice R m c)).heap[k]? = w.heap[k]? := fun k hk => Below.heap_setCell w ⟨K n, 0, none⟩ _ k hk
  refine h.area n hn hA (area_store0 h1) (own_move (by rw [hsz, bytesOf_ext0, ← nums_take, ← Nat.mul_one m]; simpa using ho) fun k hk => hm2 k (row_ne ho h1 (by decide) k hk)) ?_ (fun k _ hk _ => hm2 k hk)
  rw [hV]
  rcases R with _ | ad
  · exact .inl rfl
  · exact .inl rfl
theorem own_cap {W : World} {base n c : Nat} {e : TypeId} {R : Option Addr} {xs : List Value} (h : W.ownsRow base e 1 (.slice R n c) n xs) : n ≤ c := by
  rcases h.2 with ⟨h1, h2⟩ | ⟨k, cap, cur, he, _, _, h2, _⟩
  · omega
  · injection he with _ _ h4
    omega
theorem cell_of_heap {W W' : World} {a : Addr} (h : W'.heap[a.block]? = W.heap[a.block]?) : W'.cell? a = W.cell? a := by simp [World.cell?, h]
theorem upd_upd {α : Type} (f : Nat → α) (n : Nat) (x y : α) : upd (upd f n x) n y = upd f n y := by
  funext j
  by_cases e : j = n
  · subst e; rw [upd_at, upd_at]
  · rw [upd_ne _ _ e, upd_ne _ _ e, upd_ne _ _ e]
theorem all_calls2 (n : Nat) (hn : n < 4) {b : ByteArray} {s : Nat} (hA : A n = some (b, s)) (hI : IsD X w0 w g room left down A K V) (hB : Below w0.heap.size w0 w) : Calls Try.prog 34 #[.pointer (some ⟨K n, 0, none⟩)] w fun e w' => e = .returned (.tuple #[]) ∧
    (∃ V', IsD X w0 w' g room left down (upd A n (some (b, b.size))) K V') ∧ Below w0.heap.size w0 w' ∧ ∀ k, k ≠ K n → w'.heap[k]? = w.heap[k]? := by
  obtain ⟨h1, h2, h3⟩ := hI.ha n hn b s hA
  have c0 : w.cell? ⟨K n, 0, none⟩ = some (V n) := (blk_cell h1 0).trans rfl
  have c1 : w.cell? ⟨K n, 1, none⟩ = some (.int .i64 (s : Int)) := (blk_cell h1 1).trans rfl
  have f1 := blk_frozen h1 1
  obtain ⟨R, c, hv⟩ := own_slice h3
  rw [hv] at c0
  have HI := Lib.hid hI
  have HB := Lib.hid hB
  have H2 := Lib.hid h2
  clear hI hB h1 h3 hv h2
  have HE := Lib.hid (HI.out.setSure n hn hA b.size)
  generalize K n = kn at *
  go_enter Try.func34, Try.ntmps34
  go_wp2
  go_end0
  exact ⟨rfl, ⟨_, HE.out⟩, HB.out.setCell H2.out _, fun k hk => Below.heap_setCell w ⟨kn, 1, none⟩ _ k hk⟩
set_option maxRecDepth 100000 in
set_option maxHeartbeats 8000000 in
theorem fall_calls (xs : List Int) (R0 : Option Addr) (c0 : Nat) (hxl : xs.length ≤ c0) (hI : IsD X w0 w g room left down A K V) (hB : Below w0.heap.size w0 w) (hr : ReadsInt w .i64 R0 xs.length xs) (hkf : ∀ ad, R0 = some ad → 0 < xs.length → ∀ i, i < 4 → (A i).isSome = true → ad.block ≠ K i)
    (hsb : ∀ i, i < 4 → ∀ b s, A i = some (b, s) → s ≤ b.size) (hbz : ∀ i, i < 4 → ∀ b s, A i = some (b, s) → b.size ≤ 9223372036854775807) :
    Calls Try.prog 14 #[.pointer (some ⟨g, 0, none⟩), .slice R0 xs.length c0] w fun e w' => e = .returned (.tuple #[]) ∧ (∃ V', IsD X w0 w' g room (-1) false (fallTo xs A 4) K V') ∧ Below w0.heap.size w0 w' := by
  have c3 := hI.cp 0 (by decide)
  have c4 := hI.cp 1 (by decide)
  have c5 := hI.cp 2 (by decide)
  have c6 := hI.cp 3 (by decide)
  have hxs : ∀ n, n < 4 → n < xs.length → ∃ ad, R0 = some ad ∧ w.cell? (ad.add n) = some (.int .i64 (rd xs n)) := by
    intro n _ h
    obtain ⟨ad, e, hc⟩ := hr.at_ (n : Int) (by omega) (by omega)
    exact ⟨ad, e, by simpa using hc⟩
  have HP : Hid (∀ i, i < 4 → (A i = none ∧ ptr (A i) (K i) = .pointer none) ∨ (∃ b s, A i = some (b, s) ∧ ptr (A i) (K i) = .pointer (some ⟨K i, 0, none⟩))) := Lib.hid (by
    intro i hi
    cases hA : A i with
    | none => exact .inl ⟨rfl, rfl⟩
    | some x => exact .inr ⟨x.1, x.2, rfl, rfl⟩)
  have HI0 := Lib.hid hI
  have HB0 := Lib.hid hB
  have HSB := Lib.hid hsb
  have HBZ := Lib.hid hbz
  have HKF : Hid (∀ ad, R0 = some ad → 0 < xs.length → ∀ i, i < 4 → (A i).isSome = true → ad.block ≠ K i) := Lib.hid hkf
  have HXL := Lib.hid hxl
  have hxl2 : xs.length ≤ 9223372036854775807 := hr.2.1
  clear hI hB hr hkf hsb hbz hxl
  generalize hp0 : ptr (A 0) (K 0) = p0 at *
  generalize hp1 : ptr (A 1) (K 1) = p1 at *
  generalize hp2 : ptr (A 2) (K 2) = p2 at *
  generalize hp3 : ptr (A 3) (K 3) = p3 at *
  have HP0 := Lib.hid hp0
  have HP1 := Lib.hid hp1
  have HP2 := Lib.hid hp2
  have HP3 := Lib.hid hp3
  clear hp0 hp1 hp2 hp3
  have i0 : ∀ w, (Instr.index 65 (.agg #[p0, p1, p2, p3]) (.int .i64 0)).run Try.prog w = .ok p0 w := fun _ => by kernel_rfl
  have i1 : ∀ w, (Instr.index 65 (.agg #[p0, p1, p2, p3]) (.int .i64 1)).run Try.prog w = .ok p1 w := fun _ => by kernel_rfl
  have i2 : ∀ w, (Instr.index 65 (.agg #[p0, p1, p2, p3]) (.int .i64 2)).run Try.prog w = .ok p2 w := fun _ => by kernel_rfl
  have i3 : ∀ w, (Instr.index 65 (.agg #[p0, p1, p2, p3]) (.int .i64 3)).run Try.prog w = .ok p3 w := fun _ => by kernel_rfl
  have HXS := Lib.hid hxs
  clear hxs
  go_enter Try.func14, Try.ntmps14
  go_wp2_with fail
  clear c3 c4 c5 c6
  go_loopg [13] 5 (fun gk v13 wx => ∃ (i : Nat) (Vx : Nat → Value), i ≤ 4 ∧ v13 = .int .i64 (i : Int) ∧ Aside0 (i + gk = 5) ∧ Aside0 (IsD X w0 wx g room left down (fallTo xs A i) K Vx ∧ Below w0.heap.size w0 wx ∧ ∀ k, (∀ i, i < 4 → (A i).isSome = true → k ≠ K i) → wx.heap[k]? = w.heap[k]?))
  case atStart => exact ⟨0, V, by decide, rfl, ⟨by omega⟩, ⟨by rw [fallTo_zero]; exact HI0.out, HB0.out, fun _ _ => rfl⟩⟩
  case round =>
    obtain ⟨i, Vx, hi, rfl, ⟨hg⟩, ⟨hI, hB, hM⟩⟩ := hrel
    have HG := Lib.hid hg
    have HI := Lib.hid hI
    have HB := Lib.hid hB
    have HM := Lib.hid hM
    have hxs := HXS.out
    clear hg hI hB hM
    rcases (show i = 0 ∨ i = 1 ∨ i = 2 ∨ i = 3 ∨ i = 4 by omega) with rfl | rfl | rfl | rfl | rfl
    · have HS1 := Lib.hid (hxs 0 (by decide))
      rcases HP.out 0 (by decide) with ⟨hA, hq⟩ | ⟨b, s, hA, hq⟩
      · obtain rfl : p0 = .pointer none := HP0.out.symm.trans hq
        have HF := Lib.hid (fallTo_none xs A 0 hA)
        clear hq hA
        go_wp2
        go_roundg (gk - 1)
        case measure => have := HG.out; omega
        case rel => exact ⟨1, Vx, by decide, by go_num, ⟨by have := HG.out; omega⟩, ⟨by rw [HF.out]; exact HI.out, HB.out, HM.out⟩⟩
      · obtain rfl : p0 = .pointer (some ⟨K 0, 0, none⟩) := HP0.out.symm.trans hq
        have hAx : fallTo xs A 0 0 = some (b, s) := (fallTo_at xs A 0).trans hA
        obtain ⟨h1, h2, h3⟩ := HI.out.ha 0 (by decide) b s hAx
        obtain ⟨R, c, hv⟩ := own_slice h3
        have c0 : wr.cell? ⟨K 0, 0, none⟩ = some (.slice R b.size c) := by rw [← hv]; exact (blk_cell h1 0).trans rfl
        have c1 : wr.cell? ⟨K 0, 1, none⟩ = some (.int .i64 (s : Int)) := (blk_cell h1 1).trans rfl
        have f0 := blk_frozen h1 0
        have hcap : b.size ≤ c := own_cap (by rw [← hv]; exact h3)
        have hsb := HSB.out 0 (by decide) b s hA
        have hbz := HBZ.out 0 (by decide) b s hA
        have HKB := Lib.hid (show fallA xs 0 (A 0) = some (b.extract 0 (s + keepN xs 0 (b.size - s)), (b.extract 0 (s + keepN xs 0 (b.size - s))).size) by rw [hA]; rfl)
        have hkl := keepN_le xs 0 (b.size - s)
        have HKN := Lib.hid (show keepN xs 0 (b.size - s) = if 0 < xs.length then (min (max (rd xs 0) 0) ((b.size - s : Nat) : Int)).toNat else 0 from rfl)
        obtain ⟨pd, hpd⟩ : ∃ pd, pd = b.size - s := ⟨_, rfl⟩
        rw [← hpd] at HKB hkl HKN
        generalize hkn : keepN xs 0 pd = kn at *
        have hsub : (b.size : Int) - (s : Int) = (pd : Int) := by omega
        have HPW := Lib.hid (show IntKind.i64.wrap (pd : Int) = (pd : Int) by rw [IntKind.wrap_i64]; omega)
        have hw : IntKind.i64.wrap ((s : Int) + (kn : Int)) = ((s + kn : Nat) : Int) := by rw [IntKind.wrap_i64]; omega
        have hw2 : (s : Int) + (kn : Int) = ((s + kn : Nat) : Int) := by omega
        have hez : (b.extract 0 (s + kn)).size = s + kn := by rw [ByteArray.size_extract]; omega
        have HCA := Lib.hid (fun (W : World) (hI : IsD X w0 W g room left down (fallTo xs A 0) K Vx) (hB : Below w0.heap.size w0 W) => all_calls2 0 (by decide) (upd_at (fallTo xs A 0) 0 (some (b.extract 0 (s + kn), s))) (hI.shorter 0 (by decide) hAx hv (s + kn) (by omega)) (hB.setCell (p := ⟨K 0, 0, none⟩) h2 (.slice R (s + kn) c)))
        have HF : Hid (upd (upd (fallTo xs A 0) 0 (some (b.extract 0 (s + kn), s))) 0 (some (b.extract 0 (s + kn), (b.extract 0 (s + kn)).size)) = fallTo xs A 1) := Lib.hid (by rw [upd_upd, fallTo_succ xs A 0, HKB.out])
        have HMM : Hid (∀ k, (∀ i, i < 4 → (A i).isSome = true → k ≠ K i) → k ≠ K 0) := Lib.hid (fun k hk => hk 0 (by decide) (by rw [hA]; rfl))
        have ht0 : (0 : Int) ≤ ((s + kn : Nat) : Int) := by omega
        have ht1 : ((s + kn : Nat) : Int) ≤ (c : Int) := by omega
        obtain ⟨t, htt⟩ : ∃ t, t = s + kn := ⟨_, rfl⟩
        have HWT := Lib.hid (show IntKind.i64.wrap (t : Int) = (t : Int) by rw [IntKind.wrap_i64]; omega)
        rw [← htt] at hw hw2 HCA HF ht0 ht1
        clear hq h1 h3 hv hAx hA hkl hsb hpd HKB hez
        have HT := Lib.hid htt
        clear htt hkn
        rcases (show 0 < xs.length ∨ xs.length ≤ 0 by omega) with hln | hln
        · obtain ⟨ad, rfl, hcell⟩ := HS1.out hln
          have hcx : wr.cell? ad = some (.int .i64 (rd xs 0)) := by
            have h := (cell_of_heap (W' := wr) (HM.out _ (HKF.out ad rfl (by omega)))).trans hcell
            simpa [Addr.add] using h
          rw [if_pos hln] at HKN
          obtain ⟨q, hq⟩ : ∃ q, q = rd xs 0 := ⟨_, rfl⟩
          rw [← hq] at HKN hcx
          have hmm := HKN.out
          have hTT := HT.out
          have EQ := Lib.hid (show min (max q 0) (IntKind.i64.wrap (pd : Int)) = (kn : Int) by rw [HPW.out]; omega)
          clear hcell hq HKN hmm hTT
          go_wp2_with fail
          go_region_held3 (fun w' => w'.cell? ad = some (.int .i64 q) ∧ w'.cell? ⟨K 0, 0, none⟩ = some (.slice R b.size c) ∧ w'.cell? ⟨K 0, 1, none⟩ = some (.int .i64 (s : Int))) (first | exact ⟨hcx, c0, c1⟩ | go_keep) (fail)
          rw [EQ.out]
          generalize max q 0 = q2
          have hwt := HWT.out
          go_wp2_with fail
          go_region
          go_wp2_with fail
          refine (HCA.out wr.drew.drew HI.out.drew.drew (below_drew1 (below_drew1 HB.out))).mono ?_
          rintro e w3 ⟨rfl, ⟨V3, hI3⟩, hB3, hM3⟩
          have HI3 := Lib.hid (show IsD X w0 w3 g room left down (fallTo xs A 1) K V3 by rw [← HF.out]; exact hI3)
          have HB3 := Lib.hid hB3
          have HM3 : Hid (∀ k, (∀ i, i < 4 → (A i).isSome = true → k ≠ K i) → w3.heap[k]? = w.heap[k]?) := Lib.hid (fun k hk => (hM3 k (HMM.out k hk)).trans ((Below.heap_setCell wr.drew.drew ⟨K 0, 0, none⟩ (.slice R t c) k (HMM.out k hk)).trans (HM.out k hk)))
          clear hI3 hB3 hM3 HCA
          go_wp2
          go_roundg (gk - 1)
          case measure => have := HG.out; omega
          case rel => exact ⟨1, V3, by decide, by go_num, ⟨by have := HG.out; omega⟩, ⟨HI3.out, HB3.out, HM3.out⟩⟩
        · rw [if_neg (by omega)] at HKN
          have hk0 : t = s := by have := HKN.out; have := HT.out; omega
          subst hk0
          clear HKN hw hw2
          go_wp2_with fail
          go_region
          go_wp2_with fail
          refine (HCA.out wr.drew HI.out.drew (below_drew1 HB.out)).mono ?_
          rintro e w3 ⟨rfl, ⟨V3, hI3⟩, hB3, hM3⟩
          have HI3 := Lib.hid (show IsD X w0 w3 g room left down (fallTo xs A 1) K V3 by rw [← HF.out]; exact hI3)
          have HB3 := Lib.hid hB3
          have HM3 : Hid (∀ k, (∀ i, i < 4 → (A i).isSome = true → k ≠ K i) → w3.heap[k]? = w.heap[k]?) := Lib.hid (fun k hk => (hM3 k (HMM.out k hk)).trans ((Below.heap_setCell wr.drew ⟨K 0, 0, none⟩ (.slice R t c) k (HMM.out k hk)).trans (HM.out k hk)))
          clear hI3 hB3 hM3 HCA
          go_wp2
          go_roundg (gk - 1)
          case measure => have := HG.out; omega
          case rel => exact ⟨1, V3, by decide, by go_num, ⟨by have := HG.out; omega⟩, ⟨HI3.out, HB3.out, HM3.out⟩⟩
    · have HS1 := Lib.hid (hxs 1 (by decide))
      rcases HP.out 1 (by decide) with ⟨hA, hq⟩ | ⟨b, s, hA, hq⟩
      · obtain rfl : p1 = .pointer none := HP1.out.symm.trans hq
        have HF := Lib.hid (fallTo_none xs A 1 hA)
        clear hq hA
        go_wp2
        go_roundg (gk - 1)
        case measure => have := HG.out; omega
        case rel => exact ⟨2, Vx, by decide, by go_num, ⟨by have := HG.out; omega⟩, ⟨by rw [HF.out]; exact HI.out, HB.out, HM.out⟩⟩
      · obtain rfl : p1 = .pointer (some ⟨K 1, 0, none⟩) := HP1.out.symm.trans hq
        have hAx : fallTo xs A 1 1 = some (b, s) := (fallTo_at xs A 1).trans hA
        obtain ⟨h1, h2, h3⟩ := HI.out.ha 1 (by decide) b s hAx
        obtain ⟨R, c, hv⟩ := own_slice h3
        have c0 : wr.cell? ⟨K 1, 0, none⟩ = some (.slice R b.size c) := by rw [← hv]; exact (blk_cell h1 0).trans rfl
        have c1 : wr.cell? ⟨K 1, 1, none⟩ = some (.int .i64 (s : Int)) := (blk_cell h1 1).trans rfl
        have f0 := blk_frozen h1 0
        have hcap : b.size ≤ c := own_cap (by rw [← hv]; exact h3)
        have hsb := HSB.out 1 (by decide) b s hA
        have hbz := HBZ.out 1 (by decide) b s hA
        have HKB := Lib.hid (show fallA xs 1 (A 1) = some (b.extract 0 (s + keepN xs 1 (b.size - s)), (b.extract 0 (s + keepN xs 1 (b.size - s))).size) by rw [hA]; rfl)
        have hkl := keepN_le xs 1 (b.size - s)
        have HKN := Lib.hid (show keepN xs 1 (b.size - s) = if 1 < xs.length then (min (max (rd xs 1) 0) ((b.size - s : Nat) : Int)).toNat else 0 from rfl)
        obtain ⟨pd, hpd⟩ : ∃ pd, pd = b.size - s := ⟨_, rfl⟩
        rw [← hpd] at HKB hkl HKN
        generalize hkn : keepN xs 1 pd = kn at *
        have hsub : (b.size : Int) - (s : Int) = (pd : Int) := by omega
        have HPW := Lib.hid (show IntKind.i64.wrap (pd : Int) = (pd : Int) by rw [IntKind.wrap_i64]; omega)
        have hw : IntKind.i64.wrap ((s : Int) + (kn : Int)) = ((s + kn : Nat) : Int) := by rw [IntKind.wrap_i64]; omega
        have hw2 : (s : Int) + (kn : Int) = ((s + kn : Nat) : Int) := by omega
        have hez : (b.extract 0 (s + kn)).size = s + kn := by rw [ByteArray.size_extract]; omega
        have HCA := Lib.hid (fun (W : World) (hI : IsD X w0 W g room left down (fallTo xs A 1) K Vx) (hB : Below w0.heap.size w0 W) => all_calls2 1 (by decide) (upd_at (fallTo xs A 1) 1 (some (b.extract 0 (s + kn), s))) (hI.shorter 1 (by decide) hAx hv (s + kn) (by omega)) (hB.setCell (p := ⟨K 1, 0, none⟩) h2 (.slice R (s + kn) c)))
        have HF : Hid (upd (upd (fallTo xs A 1) 1 (some (b.extract 0 (s + kn), s))) 1 (some (b.extract 0 (s + kn), (b.extract 0 (s + kn)).size)) = fallTo xs A 2) := Lib.hid (by rw [upd_upd, fallTo_succ xs A 1, HKB.out])
        have HMM : Hid (∀ k, (∀ i, i < 4 → (A i).isSome = true → k ≠ K i) → k ≠ K 1) := Lib.hid (fun k hk => hk 1 (by decide) (by rw [hA]; rfl))
        have ht0 : (0 : Int) ≤ ((s + kn : Nat) : Int) := by omega
        have ht1 : ((s + kn : Nat) : Int) ≤ (c : Int) := by omega
        obtain ⟨t, htt⟩ : ∃ t, t = s + kn := ⟨_, rfl⟩
        have HWT := Lib.hid (show IntKind.i64.wrap (t : Int) = (t : Int) by rw [IntKind.wrap_i64]; omega)
        rw [← htt] at hw hw2 HCA HF ht0 ht1
        clear hq h1 h3 hv hAx hA hkl hsb hpd HKB hez
        have HT := Lib.hid htt
        clear htt hkn
        rcases (show 1 < xs.length ∨ xs.length ≤ 1 by omega) with hln | hln
        · obtain ⟨ad, rfl, hcell⟩ := HS1.out hln
          have hab : (ad.add 1).block = ad.block := by unfold Addr.add; split <;> rfl
          have hcx : wr.cell? { block := ad.block, off := ad.off + 1 } = some (.int .i64 (rd xs 1)) := by
            have h := (cell_of_heap (W' := wr) (HM.out _ (by rw [hab]; exact HKF.out ad rfl (by omega)))).trans hcell
            simpa [Addr.add] using h
          rw [if_pos hln] at HKN
          obtain ⟨q, hq⟩ : ∃ q, q = rd xs 1 := ⟨_, rfl⟩
          rw [← hq] at HKN hcx
          have hmm := HKN.out
          have hTT := HT.out
          have EQ := Lib.hid (show min (max q 0) (IntKind.i64.wrap (pd : Int)) = (kn : Int) by rw [HPW.out]; omega)
          clear hcell hq HKN hmm hTT
          go_wp2_with fail
          go_region_held3 (fun w' => w'.cell? { block := ad.block, off := ad.off + 1 } = some (.int .i64 q) ∧ w'.cell? ⟨K 1, 0, none⟩ = some (.slice R b.size c) ∧ w'.cell? ⟨K 1, 1, none⟩ = some (.int .i64 (s : Int))) (first | exact ⟨hcx, c0, c1⟩ | go_keep) (fail)
          rw [EQ.out]
          generalize max q 0 = q2
          have hwt := HWT.out
          go_wp2_with fail
          go_region
          go_wp2_with fail
          refine (HCA.out wr.drew.drew HI.out.drew.drew (below_drew1 (below_drew1 HB.out))).mono ?_
          rintro e w3 ⟨rfl, ⟨V3, hI3⟩, hB3, hM3⟩
          have HI3 := Lib.hid (show IsD X w0 w3 g room left down (fallTo xs A 2) K V3 by rw [← HF.out]; exact hI3)
          have HB3 := Lib.hid hB3
          have HM3 : Hid (∀ k, (∀ i, i < 4 → (A i).isSome = true → k ≠ K i) → w3.heap[k]? = w.heap[k]?) := Lib.hid (fun k hk => (hM3 k (HMM.out k hk)).trans ((Below.heap_setCell wr.drew.drew ⟨K 1, 0, none⟩ (.slice R t c) k (HMM.out k hk)).trans (HM.out k hk)))
          clear hI3 hB3 hM3 HCA
          go_wp2
          go_roundg (gk - 1)
          case measure => have := HG.out; omega
          case rel => exact ⟨2, V3, by decide, by go_num, ⟨by have := HG.out; omega⟩, ⟨HI3.out, HB3.out, HM3.out⟩⟩
        · rw [if_neg (by omega)] at HKN
          have hk0 : t = s := by have := HKN.out; have := HT.out; omega
          subst hk0
          clear HKN hw hw2
          go_wp2_with fail
          go_region
          go_wp2_with fail
          refine (HCA.out wr.drew HI.out.drew (below_drew1 HB.out)).mono ?_
          rintro e w3 ⟨rfl, ⟨V3, hI3⟩, hB3, hM3⟩
          have HI3 := Lib.hid (show IsD X w0 w3 g room left down (fallTo xs A 2) K V3 by rw [← HF.out]; exact hI3)
          have HB3 := Lib.hid hB3
          have HM3 : Hid (∀ k, (∀ i, i < 4 → (A i).isSome = true → k ≠ K i) → w3.heap[k]? = w.heap[k]?) := Lib.hid (fun k hk => (hM3 k (HMM.out k hk)).trans ((Below.heap_setCell wr.drew ⟨K 1, 0, none⟩ (.slice R t c) k (HMM.out k hk)).trans (HM.out k hk)))
          clear hI3 hB3 hM3 HCA
          go_wp2
          go_roundg (gk - 1)
          case measure => have := HG.out; omega
          case rel => exact ⟨2, V3, by decide, by go_num, ⟨by have := HG.out; omega⟩, ⟨HI3.out, HB3.out, HM3.out⟩⟩
    · have HS1 := Lib.hid (hxs 2 (by decide))
      rcases HP.out 2 (by decide) with ⟨hA, hq⟩ | ⟨b, s, hA, hq⟩
      · obtain rfl : p2 = .pointer none := HP2.out.symm.trans hq
        have HF := Lib.hid (fallTo_none xs A 2 hA)
        clear hq hA
        go_wp2
        go_roundg (gk - 1)
        case measure => have := HG.out; omega
        case rel => exact ⟨3, Vx, by decide, by go_num, ⟨by have := HG.out; omega⟩, ⟨by rw [HF.out]; exact HI.out, HB.out, HM.out⟩⟩
      · obtain rfl : p2 = .pointer (some ⟨K 2, 0, none⟩) := HP2.out.symm.trans hq
        have hAx : fallTo xs A 2 2 = some (b, s) := (fallTo_at xs A 2).trans hA
        obtain ⟨h1, h2, h3⟩ := HI.out.ha 2 (by decide) b s hAx
        obtain ⟨R, c, hv⟩ := own_slice h3
        have c0 : wr.cell? ⟨K 2, 0, none⟩ = some (.slice R b.size c) := by rw [← hv]; exact (blk_cell h1 0).trans rfl
        have c1 : wr.cell? ⟨K 2, 1, none⟩ = some (.int .i64 (s : Int)) := (blk_cell h1 1).trans rfl
        have f0 := blk_frozen h1 0
        have hcap : b.size ≤ c := own_cap (by rw [← hv]; exact h3)
        have hsb := HSB.out 2 (by decide) b s hA
        have hbz := HBZ.out 2 (by decide) b s hA
        have HKB := Lib.hid (show fallA xs 2 (A 2) = some (b.extract 0 (s + keepN xs 2 (b.size - s)), (b.extract 0 (s + keepN xs 2 (b.size - s))).size) by rw [hA]; rfl)
        have hkl := keepN_le xs 2 (b.size - s)
        have HKN := Lib.hid (show keepN xs 2 (b.size - s) = if 2 < xs.length then (min (max (rd xs 2) 0) ((b.size - s : Nat) : Int)).toNat else 0 from rfl)
        obtain ⟨pd, hpd⟩ : ∃ pd, pd = b.size - s := ⟨_, rfl⟩
        rw [← hpd] at HKB hkl HKN
        generalize hkn : keepN xs 2 pd = kn at *
        have hsub : (b.size : Int) - (s : Int) = (pd : Int) := by omega
        have HPW := Lib.hid (show IntKind.i64.wrap (pd : Int) = (pd : Int) by rw [IntKind.wrap_i64]; omega)
        have hw : IntKind.i64.wrap ((s : Int) + (kn : Int)) = ((s + kn : Nat) : Int) := by rw [IntKind.wrap_i64]; omega
        have hw2 : (s : Int) + (kn : Int) = ((s + kn : Nat) : Int) := by omega
        have hez : (b.extract 0 (s + kn)).size = s + kn := by rw [ByteArray.size_extract]; omega
        have HCA := Lib.hid (fun (W : World) (hI : IsD X w0 W g room left down (fallTo xs A 2) K Vx) (hB : Below w0.heap.size w0 W) => all_calls2 2 (by decide) (upd_at (fallTo xs A 2) 2 (some (b.extract 0 (s + kn), s))) (hI.shorter 2 (by decide) hAx hv (s + kn) (by omega)) (hB.setCell (p := ⟨K 2, 0, none⟩) h2 (.slice R (s + kn) c)))
        have HF : Hid (upd (upd (fallTo xs A 2) 2 (some (b.extract 0 (s + kn), s))) 2 (some (b.extract 0 (s + kn), (b.extract 0 (s + kn)).size)) = fallTo xs A 3) := Lib.hid (by rw [upd_upd, fallTo_succ xs A 2, HKB.out])
        have HMM : Hid (∀ k, (∀ i, i < 4 → (A i).isSome = true → k ≠ K i) → k ≠ K 2) := Lib.hid (fun k hk => hk 2 (by decide) (by rw [hA]; rfl))
        have ht0 : (0 : Int) ≤ ((s + kn : Nat) : Int) := by omega
        have ht1 : ((s + kn : Nat) : Int) ≤ (c : Int) := by omega
        obtain ⟨t, htt⟩ : ∃ t, t = s + kn := ⟨_, rfl⟩
        have HWT := Lib.hid (show IntKind.i64.wrap (t : Int) = (t : Int) by rw [IntKind.wrap_i64]; omega)
        rw [← htt] at hw hw2 HCA HF ht0 ht1
        clear hq h1 h3 hv hAx hA hkl hsb hpd HKB hez
        have HT := Lib.hid htt
        clear htt hkn
        rcases (show 2 < xs.length ∨ xs.length ≤ 2 by omega) with hln | hln
        · obtain ⟨ad, rfl, hcell⟩ := HS1.out hln
          have hab : (ad.add 2).block = ad.block := by unfold Addr.add; split <;> rfl
          have hcx : wr.cell? { block := ad.block, off := ad.off + 2 } = some (.int .i64 (rd xs 2)) := by
            have h := (cell_of_heap (W' := wr) (HM.out _ (by rw [hab]; exact HKF.out ad rfl (by omega)))).trans hcell
            simpa [Addr.add] using h
          rw [if_pos hln] at HKN
          obtain ⟨q, hq⟩ : ∃ q, q = rd xs 2 := ⟨_, rfl⟩
          rw [← hq] at HKN hcx
          have hmm := HKN.out
          have hTT := HT.out
          have EQ := Lib.hid (show min (max q 0) (IntKind.i64.wrap (pd : Int)) = (kn : Int) by rw [HPW.out]; omega)
          clear hcell hq HKN hmm hTT
          go_wp2_with fail
          go_region_held3 (fun w' => w'.cell? { block := ad.block, off := ad.off + 2 } = some (.int .i64 q) ∧ w'.cell? ⟨K 2, 0, none⟩ = some (.slice R b.size c) ∧ w'.cell? ⟨K 2, 1, none⟩ = some (.int .i64 (s : Int))) (first | exact ⟨hcx, c0, c1⟩ | go_keep) (fail)
          rw [EQ.out]
          generalize max q 0 = q2
          have hwt := HWT.out
          go_wp2_with fail
          go_region
          go_wp2_with fail
          refine (HCA.out wr.drew.drew HI.out.drew.drew (below_drew1 (below_drew1 HB.out))).mono ?_
          rintro e w3 ⟨rfl, ⟨V3, hI3⟩, hB3, hM3⟩
          have HI3 := Lib.hid (show IsD X w0 w3 g room left down (fallTo xs A 3) K V3 by rw [← HF.out]; exact hI3)
          have HB3 := Lib.hid hB3
          have HM3 : Hid (∀ k, (∀ i, i < 4 → (A i).isSome = true → k ≠ K i) → w3.heap[k]? = w.heap[k]?) := Lib.hid (fun k hk => (hM3 k (HMM.out k hk)).trans ((Below.heap_setCell wr.drew.drew ⟨K 2, 0, none⟩ (.slice R t c) k (HMM.out k hk)).trans (HM.out k hk)))
          clear hI3 hB3 hM3 HCA
          go_wp2
          go_roundg (gk - 1)
          case measure => have := HG.out; omega
          case rel => exact ⟨3, V3, by decide, by go_num, ⟨by have := HG.out; omega⟩, ⟨HI3.out, HB3.out, HM3.out⟩⟩
        · rw [if_neg (by omega)] at HKN
          have hk0 : t = s := by have := HKN.out; have := HT.out; omega
          subst hk0
          clear HKN hw hw2
          go_wp2_with fail
          go_region
          go_wp2_with fail
          refine (HCA.out wr.drew HI.out.drew (below_drew1 HB.out)).mono ?_
          rintro e w3 ⟨rfl, ⟨V3, hI3⟩, hB3, hM3⟩
          have HI3 := Lib.hid (show IsD X w0 w3 g room left down (fallTo xs A 3) K V3 by rw [← HF.out]; exact hI3)
          have HB3 := Lib.hid hB3
          have HM3 : Hid (∀ k, (∀ i, i < 4 → (A i).isSome = true → k ≠ K i) → w3.heap[k]? = w.heap[k]?) := Lib.hid (fun k hk => (hM3 k (HMM.out k hk)).trans ((Below.heap_setCell wr.drew ⟨K 2, 0, none⟩ (.slice R t c) k (HMM.out k hk)).trans (HM.out k hk)))
          clear hI3 hB3 hM3 HCA
          go_wp2
          go_roundg (gk - 1)
          case measure => have := HG.out; omega
          case rel => exact ⟨3, V3, by decide, by go_num, ⟨by have := HG.out; omega⟩, ⟨HI3.out, HB3.out, HM3.out⟩⟩
    · have HS1 := Lib.hid (hxs 3 (by decide))
      rcases HP.out 3 (by decide) with ⟨hA, hq⟩ | ⟨b, s, hA, hq⟩
      · obtain rfl : p3 = .pointer none := HP3.out.symm.trans hq
        have HF := Lib.hid (fallTo_none xs A 3 hA)
        clear hq hA
        go_wp2
        go_roundg (gk - 1)
        case measure => have := HG.out; omega
        case rel => exact ⟨4, Vx, by decide, by go_num, ⟨by have := HG.out; omega⟩, ⟨by rw [HF.out]; exact HI.out, HB.out, HM.out⟩⟩
      · obtain rfl : p3 = .pointer (some ⟨K 3, 0, none⟩) := HP3.out.symm.trans hq
        have hAx : fallTo xs A 3 3 = some (b, s) := (fallTo_at xs A 3).trans hA
        obtain ⟨h1, h2, h3⟩ := HI.out.ha 3 (by decide) b s hAx
        obtain ⟨R, c, hv⟩ := own_slice h3
        have c0 : wr.cell? ⟨K 3, 0, none⟩ = some (.slice R b.size c) := by rw [← hv]; exact (blk_cell h1 0).trans rfl
        have c1 : wr.cell? ⟨K 3, 1, none⟩ = some (.int .i64 (s : Int)) := (blk_cell h1 1).trans rfl
        have f0 := blk_frozen h1 0
        have hcap : b.size ≤ c := own_cap (by rw [← hv]; exact h3)
        have hsb := HSB.out 3 (by decide) b s hA
        have hbz := HBZ.out 3 (by decide) b s hA
        have HKB := Lib.hid (show fallA xs 3 (A 3) = some (b.extract 0 (s + keepN xs 3 (b.size - s)), (b.extract 0 (s + keepN xs 3 (b.size - s))).size) by rw [hA]; rfl)
        have hkl := keepN_le xs 3 (b.size - s)
        have HKN := Lib.hid (show keepN xs 3 (b.size - s) = if 3 < xs.length then (min (max (rd xs 3) 0) ((b.size - s : Nat) : Int)).toNat else 0 from rfl)
        obtain ⟨pd, hpd⟩ : ∃ pd, pd = b.size - s := ⟨_, rfl⟩
        rw [← hpd] at HKB hkl HKN
        generalize hkn : keepN xs 3 pd = kn at *
        have hsub : (b.size : Int) - (s : Int) = (pd : Int) := by omega
        have HPW := Lib.hid (show IntKind.i64.wrap (pd : Int) = (pd : Int) by rw [IntKind.wrap_i64]; omega)
        have hw : IntKind.i64.wrap ((s : Int) + (kn : Int)) = ((s + kn : Nat) : Int) := by rw [IntKind.wrap_i64]; omega
        have hw2 : (s : Int) + (kn : Int) = ((s + kn : Nat) : Int) := by omega
        have hez : (b.extract 0 (s + kn)).size = s + kn := by rw [ByteArray.size_extract]; omega
        have HCA := Lib.hid (fun (W : World) (hI : IsD X w0 W g room left down (fallTo xs A 3) K Vx) (hB : Below w0.heap.size w0 W) => all_calls2 3 (by decide) (upd_at (fallTo xs A 3) 3 (some (b.extract 0 (s + kn), s))) (hI.shorter 3 (by decide) hAx hv (s + kn) (by omega)) (hB.setCell (p := ⟨K 3, 0, none⟩) h2 (.slice R (s + kn) c)))
        have HF : Hid (upd (upd (fallTo xs A 3) 3 (some (b.extract 0 (s + kn), s))) 3 (some (b.extract 0 (s + kn), (b.extract 0 (s + kn)).size)) = fallTo xs A 4) := Lib.hid (by rw [upd_upd, fallTo_succ xs A 3, HKB.out])
        have HMM : Hid (∀ k, (∀ i, i < 4 → (A i).isSome = true → k ≠ K i) → k ≠ K 3) := Lib.hid (fun k hk => hk 3 (by decide) (by rw [hA]; rfl))
        have ht0 : (0 : Int) ≤ ((s + kn : Nat) : Int) := by omega
        have ht1 : ((s + kn : Nat) : Int) ≤ (c : Int) := by omega
        obtain ⟨t, htt⟩ : ∃ t, t = s + kn := ⟨_, rfl⟩
        have HWT := Lib.hid (show IntKind.i64.wrap (t : Int) = (t : Int) by rw [IntKind.wrap_i64]; omega)
        rw [← htt] at hw hw2 HCA HF ht0 ht1
        clear hq h1 h3 hv hAx hA hkl hsb hpd HKB hez
        have HT := Lib.hid htt
        clear htt hkn
        rcases (show 3 < xs.length ∨ xs.length ≤ 3 by omega) with hln | hln
        · obtain ⟨ad, rfl, hcell⟩ := HS1.out hln
          have hab : (ad.add 3).block = ad.block := by unfold Addr.add; split <;> rfl
          have hcx : wr.cell? { block := ad.block, off := ad.off + 3 } = some (.int .i64 (rd xs 3)) := by
            have h := (cell_of_heap (W' := wr) (HM.out _ (by rw [hab]; exact HKF.out ad rfl (by omega)))).trans hcell
            simpa [Addr.add] using h
          rw [if_pos hln] at HKN
          obtain ⟨q, hq⟩ : ∃ q, q = rd xs 3 := ⟨_, rfl⟩
          rw [← hq] at HKN hcx
          have hmm := HKN.out
          have hTT := HT.out
          have EQ := Lib.hid (show min (max q 0) (IntKind.i64.wrap (pd : Int)) = (kn : Int) by rw [HPW.out]; omega)
          clear hcell hq HKN hmm hTT
          go_wp2_with fail
          go_region_held3 (fun w' => w'.cell? { block := ad.block, off := ad.off + 3 } = some (.int .i64 q) ∧ w'.cell? ⟨K 3, 0, none⟩ = some (.slice R b.size c) ∧ w'.cell? ⟨K 3, 1, none⟩ = some (.int .i64 (s : Int))) (first | exact ⟨hcx, c0, c1⟩ | go_keep) (fail)
          rw [EQ.out]
          generalize max q 0 = q2
          have hwt := HWT.out
          go_wp2_with fail
          go_region
          go_wp2_with fail
          refine (HCA.out wr.drew.drew HI.out.drew.drew (below_drew1 (below_drew1 HB.out))).mono ?_
          rintro e w3 ⟨rfl, ⟨V3, hI3⟩, hB3, hM3⟩
          have HI3 := Lib.hid (show IsD X w0 w3 g room left down (fallTo xs A 4) K V3 by rw [← HF.out]; exact hI3)
          have HB3 := Lib.hid hB3
          have HM3 : Hid (∀ k, (∀ i, i < 4 → (A i).isSome = true → k ≠ K i) → w3.heap[k]? = w.heap[k]?) := Lib.hid (fun k hk => (hM3 k (HMM.out k hk)).trans ((Below.heap_setCell wr.drew.drew ⟨K 3, 0, none⟩ (.slice R t c) k (HMM.out k hk)).trans (HM.out k hk)))
          clear hI3 hB3 hM3 HCA
          go_wp2
          go_roundg (gk - 1)
          case measure => have := HG.out; omega
          case rel => exact ⟨4, V3, by decide, by go_num, ⟨by have := HG.out; omega⟩, ⟨HI3.out, HB3.out, HM3.out⟩⟩
        · rw [if_neg (by omega)] at HKN
          have hk0 : t = s := by have := HKN.out; have := HT.out; omega
          subst hk0
          clear HKN hw hw2
          go_wp2_with fail
          go_region
          go_wp2_with fail
          refine (HCA.out wr.drew HI.out.drew (below_drew1 HB.out)).mono ?_
          rintro e w3 ⟨rfl, ⟨V3, hI3⟩, hB3, hM3⟩
          have HI3 := Lib.hid (show IsD X w0 w3 g room left down (fallTo xs A 4) K V3 by rw [← HF.out]; exact hI3)
          have HB3 := Lib.hid hB3
          have HM3 : Hid (∀ k, (∀ i, i < 4 → (A i).isSome = true → k ≠ K i) → w3.heap[k]? = w.heap[k]?) := Lib.hid (fun k hk => (hM3 k (HMM.out k hk)).trans ((Below.heap_setCell wr.drew ⟨K 3, 0, none⟩ (.slice R t c) k (HMM.out k hk)).trans (HM.out k hk)))
          clear hI3 hB3 hM3 HCA
          go_wp2
          go_roundg (gk - 1)
          case measure => have := HG.out; omega
          case rel => exact ⟨4, V3, by decide, by go_num, ⟨by have := HG.out; omega⟩, ⟨HI3.out, HB3.out, HM3.out⟩⟩
    · have f1 := HI.out.f 1
      have f2 := HI.out.f 2
      have c1 := HI.out.c1
      have c2 := HI.out.c2
      have HE := Lib.hid (HI.out.setDown false)
      have HE2 := Lib.hid (HE.out.setLeft (-1))
      have HB2 := Lib.hid ((HB.out.setCell (p := ⟨g, 2, none⟩) HI.out.hg (.bool false)).setCell (p := ⟨g, 1, none⟩) HI.out.hg (.int .i64 (-1)))
      have c12 := HE.out.c1
      have f12 := HE.out.f 1
      clear hxs HE
      go_wp2
      go_end0
      exact ⟨rfl, ⟨_, HE2.out⟩, HB2.out⟩
end
end Go.Proofs.Ytccdmedhkbabpaa
/- The drum's Trim and Has. Conditions: those that each theorem names. -/
namespace Go.Proofs.Ytccdmedhkbabpaa
open Go.RowKit Go.Proofs.YtccdmedhkbabpaaW.PrintWords

section
variable {X : Nat → Obj → Prop} {w0 w : World} {g : Nat} {room left : Int} {down : Bool} {A : Nat → Ar} {K : Nat → Nat} {V : Nat → Value}
/-- What a trim is refused for, and what it does. -/
def trimRef (size : Int) (a : Ar) : Int := if a.isSome then (if 0 ≤ size then 0 else 1) else 12
def trimAct (size : Int) (a : Ar) : Ar := a.map fun x => (x.1.extract 0 (min size (x.1.size : Int)).toNat, (x.1.extract 0 (min size (x.1.size : Int)).toNat).size)
theorem trim1_calls (bs : Nat) (size : Int) (n : Nat) (h2 : w.heap[bs]? = some (.cells #[.int .i64 size] 3 (0, 0))) :
    Calls Try.prog 55 #[ptr (A n) (K n), .pointer (some ⟨bs, 0, none⟩)] w fun e w' => e = .returned (.int .i64 (trimRef size (A n))) ∧ w' = w := by
  have d2 : w.cell? ⟨bs, 0, none⟩ = some (.int .i64 size) := (blk_cell h2 0).trans rfl
  have HT := Lib.hid (there_calls (A n) (K n) w)
  clear h2
  generalize ptr (A n) (K n) = pv at *
  cases hA : A n with
  | none =>
    rw [hA] at HT
    have HR : Hid (trimRef size none = 12) := rfl
    go_enter Try.func55, Try.ntmps55
    go_wp2_with fail
    refine HT.out.mono ?_
    rintro e w1 ⟨rfl, rfl⟩
    go_wp2_with fail
    all_goals go_ret
    all_goals exact ⟨by rw [HR.out]; rfl, rfl⟩
  | some x =>
    rw [hA] at HT
    rcases (show 0 ≤ size ∨ ¬ 0 ≤ size by omega) with hs | hs
    · have HR : Hid (trimRef size (some x) = 0) := Lib.hid (if_pos hs)
      go_enter Try.func55, Try.ntmps55
      go_wp2_with fail
      refine HT.out.mono ?_
      rintro e w1 ⟨rfl, rfl⟩
      go_wp2_with fail
      all_goals go_ret
      all_goals exact ⟨by rw [HR.out]; rfl, rfl⟩
    · have HR : Hid (trimRef size (some x) = 1) := Lib.hid (if_neg hs)
      go_enter Try.func55, Try.ntmps55
      go_wp2_with fail
      refine HT.out.mono ?_
      rintro e w1 ⟨rfl, rfl⟩
      go_wp2_with fail
      all_goals go_ret
      all_goals exact ⟨by rw [HR.out]; rfl, rfl⟩
theorem trim2_calls (n : Nat) (hn : n < 4) (bs : Nat) (size : Int) (hs0 : 0 ≤ size) (h2 : w.heap[bs]? = some (.cells #[.int .i64 size] 3 (0, 0))) {b : ByteArray} {sr : Nat} (hA : A n = some (b, sr)) (hI : IsD X w0 w g room left down A K V) (hB : Below w0.heap.size w0 w) (hbz : b.size ≤ 9223372036854775807) :
    Calls Try.prog 56 #[.pointer (some ⟨g, 3 + n, none⟩), .pointer (some ⟨bs, 0, none⟩)] w fun e w' => e = .returned (.tuple #[]) ∧ (∃ K' V', IsD X w0 w' g room left down (upd A n (trimAct size (A n))) K' V') ∧ Below w0.heap.size w0 w' := by
  have d2 : w.cell? ⟨bs, 0, none⟩ = some (.int .i64 size) := (blk_cell h2 0).trans rfl
  have cp0 := hI.cp n hn
  rw [ptr_some hA] at cp0
  obtain ⟨h1, h3, h4⟩ := hI.ha n hn b sr hA
  have c0 : w.cell? ⟨K n, 0, none⟩ = some (V n) := (blk_cell h1 0).trans rfl
  have c1 : w.cell? ⟨K n, 1, none⟩ = some (.int .i64 (sr : Int)) := (blk_cell h1 1).trans rfl
  have f0 := blk_frozen h1 0
  have f1 := blk_frozen h1 1
  obtain ⟨R, c, hv⟩ := own_slice h4
  have hcap : b.size ≤ c := own_cap (by rw [← hv]; exact h4)
  rw [hv] at c0
  obtain ⟨m, hm⟩ : ∃ m, m = (min size (b.size : Int)).toNat := ⟨_, rfl⟩
  have hez : (b.extract 0 m).size = m := by rw [ByteArray.size_extract]; omega
  have HE : Hid (∀ W : World, IsD X w0 W g room left down A K V → IsD X w0 ((W.setCell ⟨K n, 0, none⟩ (.slice R m c)).setCell ⟨K n, 1, none⟩ (.int .i64 (m : Int))) g room left down (upd A n (trimAct size (A n))) K (upd (upd V n (.slice R m c)) n (upd V n (.slice R m c) n))) := Lib.hid (fun W hI => by
    have h := (hI.shorter n hn hA hv m (by omega)).setSure n hn (upd_at A n (some (b.extract 0 m, sr))) m
    have e : upd (upd A n (some (b.extract 0 m, sr))) n (some (b.extract 0 m, m)) = upd A n (trimAct size (A n)) := by
      rw [upd_upd, hA]
      unfold trimAct
      simp only [Option.map]
      rw [← hm, hez]
    rw [e] at h
    exact h)
  have HI := Lib.hid hI
  have HB := Lib.hid hB
  have H3 := Lib.hid h3
  have EQ := Lib.hid (show (if (b.size : Int) < size then (b.size : Int) else size) = (m : Int) by split <;> omega)
  have hm0 : (0 : Int) ≤ (m : Int) := by omega
  have hm1 : (m : Int) ≤ (c : Int) := by omega
  have hmw : IntKind.i64.wrap (m : Int) = (m : Int) := by rw [IntKind.wrap_i64]; omega
  have hways : (size = (m : Int) ∧ m ≤ b.size) ∨ ((b.size : Int) < size ∧ m = b.size) := by omega
  clear hI hB h1 h3 h4 h2 hv hA hez hm EQ
  generalize K n = kn at *
  rcases hways with ⟨rfl, hle⟩ | ⟨hlt, rfl⟩
  · have hle2 : ¬ (b.size : Int) < (m : Int) := by omega
    go_enter Try.func56, Try.ntmps56
    go_wp2_with fail
    go_region
    go_wp2_with fail
    go_end0
    rw [show (min (m : Int) (b.size : Int)).toNat = m by omega, show max (min (m : Int) (b.size : Int)) 0 = (m : Int) by omega]
    exact ⟨rfl, ⟨K, _, HE.out _ HI.out.drew⟩, ((below_drew1 HB.out).setCell H3.out _).setCell H3.out _⟩
  · go_enter Try.func56, Try.ntmps56
    go_wp2_with fail
    go_region
    go_wp2_with fail
    go_end0
    rw [show (min (size) (b.size : Int)).toNat = b.size by omega, show max (min (size) (b.size : Int)) 0 = (b.size : Int) by omega]
    exact ⟨rfl, ⟨K, _, HE.out _ HI.out.drew⟩, ((below_drew1 HB.out).setCell H3.out _).setCell H3.out _⟩
set_option maxRecDepth 100000 in
set_option maxHeartbeats 4000000 in
theorem step_trim (bs : Nat) (size : Int) (n : Int) (hI : IsD X w0 w g room left down A K V) (hB : Below w0.heap.size w0 w) (hl : -1 ≤ left ∧ left ≤ 9223372036854775807) (hn64 : -9223372036854775808 ≤ n ∧ n ≤ 9223372036854775807) (hbs : w.heap[bs]? = some (.cells #[.int .i64 size] 3 (0, 0))) (hbg : g < bs) (hu : usedTo A 4 ≤ 9223372036854775807) :
    Calls Try.prog 46 #[.pointer (some ⟨g, 0, none⟩), .int .i64 n, .func (Fn.func 55) #[] #[.pointer (some ⟨bs, 0, none⟩)], .func (Fn.func 56) #[] #[.pointer (some ⟨bs, 0, none⟩)]] w fun e w' => e = .returned (.int .i64 (stepR left down A n (trimRef size) (trimAct size)).1) ∧ AtD X w0 w' g room (stepR left down A n (trimRef size) (trimAct size)) := by
  have HI := Lib.hid hI
  have HB := Lib.hid hB
  have HBS := Lib.hid hbs
  have HBG := Lib.hid hbg
  have HU := Lib.hid hu
  clear hbs hbg hu
  clear hI hB
  cases down with
  | true =>
    have HR : Hid (stepR left true A n (trimRef size) (trimAct size) = (11, left, true, A)) := Lib.hid (by unfold stepR; rw [if_pos rfl])
    rw [HR.out]
    go_enter Try.func46, Try.ntmps46
    go_wp2_with fail
    refine (down_calls HI.out).mono ?_
    rintro e w1 ⟨rfl, rfl⟩
    go_wp2_with fail
    go_ret
    exact ⟨rfl, ⟨_, _, HI.out⟩, HB.out⟩
  | false =>
    rcases (show (n < 0 ∨ 4 ≤ n) ∨ (0 ≤ n ∧ n < 4) by omega) with hn | ⟨hn0, hn4⟩
    · have HR : Hid (stepR left false A n (trimRef size) (trimAct size) = (1, left, false, A)) := Lib.hid (by unfold stepR; rw [if_neg (by decide), if_pos hn])
      rw [HR.out]
      rcases hn with hn | hn
      ·
        go_enter Try.func46, Try.ntmps46
        go_wp2_with fail
        refine (down_calls HI.out).mono ?_
        rintro e w1 ⟨rfl, rfl⟩
        go_wp2_with fail
        go_ret
        exact ⟨rfl, ⟨_, _, HI.out⟩, HB.out⟩
      ·
        go_enter Try.func46, Try.ntmps46
        go_wp2_with fail
        refine (down_calls HI.out).mono ?_
        rintro e w1 ⟨rfl, rfl⟩
        go_wp2_with fail
        go_ret
        exact ⟨rfl, ⟨_, _, HI.out⟩, HB.out⟩
    · obtain ⟨i, rfl⟩ : ∃ i : Nat, n = (i : Int) := ⟨n.toNat, by omega⟩
      have hi : i < 4 := by omega
      have hcp := HI.out.cp i hi
      have c1 := HI.out.c1
      have f1 := HI.out.f 1
      have c2 := HI.out.c2
      have f2 := HI.out.f 2
      have HS : Hid (stepR left false A (i : Int) (trimRef size) (trimAct size) = if (trimRef size) (A i) ≠ 0 then ((trimRef size) (A i), left, false, A) else if left = 0 then (11, left, true, A) else (0, max (left - 1) (-1), false, upd A i ((trimAct size) (A i)))) := Lib.hid (by unfold stepR; rw [if_neg (by decide), if_neg (by omega), Int.toNat_natCast]; first | done | rfl)
      generalize hst : stepR left false A (i : Int) (trimRef size) (trimAct size) = st at *
      clear hst
      obtain ⟨hl0, hl1⟩ := hl
      have HCP := Lib.hid hcp
      clear hcp hn0
      generalize hpv : ptr (A i) (K i) = pv
      have cp : w.cell? ⟨g, 3 + i, none⟩ = some pv := by rw [← hpv]; exact HCP.out
      have HPV := Lib.hid hpv
      clear hpv HCP
      go_enter Try.func46, Try.ntmps46
      go_wp2_with fail
      refine (down_calls HI.out).mono ?_
      rintro e w1 ⟨rfl, rfl⟩
      go_wp2_with fail
      rw [← HPV.out]
      refine (trim1_calls bs size i HBS.out).mono ?_
      rintro e w2 ⟨rfl, rfl⟩
      rw [HPV.out]
      have HSZ := Lib.hid (sz_le A i hi)
      cases hA : A i with
      | none =>
        rw [hA] at HS
        have HA := Lib.hid hA
        have hwr : trimRef size none = 12 := rfl
        clear hA
        have HS2 : Hid (st = (12, left, false, A)) := Lib.hid (by rw [HS.out]; rw [hwr]; rfl)
        clear HS
        go_wp2_with fail
        go_ret
        rw [HS2.out]
        exact ⟨rfl, ⟨_, _, HI.out⟩, HB.out⟩
      | some x =>
        rw [hA] at HS
        have HA := Lib.hid hA
        clear hA
        obtain ⟨b, sr⟩ := x
        rcases (show 0 ≤ size ∨ ¬ 0 ≤ size by omega) with hrm | hrm
        · have hwr : trimRef size (some (b, sr)) = 0 := if_pos hrm
          have HRM := Lib.hid hrm
          clear hrm
          rcases (show left = 0 ∨ left = -1 ∨ 1 ≤ left by omega) with h0 | h0 | h0
          · subst h0
            have HS2 : Hid (st = (11, 0, true, A)) := Lib.hid (by rw [HS.out]; rw [hwr]; rfl)
            clear HS
            go_wp2_with fail
            go_ret
            rw [HS2.out]
            exact ⟨rfl, ⟨_, _, HI.out.setDown true⟩, HB.out.setCell HI.out.hg _⟩
          · subst h0
            have HS2 : Hid (st = (0, -1, false, upd A i ((trimAct size) (A i)))) := Lib.hid (by rw [HS.out, HA.out, hwr]; rfl)
            have HI2 := Lib.hid (HI.out.setLeft (-1))
            have HB2 := Lib.hid (HB.out.setCell HI.out.hg (p := ⟨g, 1, none⟩) (.int .i64 (-1)))
            clear HS
            have HBS3 := Lib.hid ((Below.heap_setCell _ ⟨g, 1, none⟩ (.int .i64 (-1)) bs (Nat.ne_of_gt HBG.out)).trans HBS.out)
            go_wp2_with fail
            refine (trim2_calls i hi bs size HRM.out HBS3.out HA.out HI2.out HB2.out (by have h1 := HU.out; have h2 := HSZ.out; rw [HA.out] at h2; have h3 : b.size ≤ usedTo A 4 := h2; omega)).mono ?_
            rintro e w3 ⟨rfl, h3, h4⟩
            have H3 := Lib.hid h3
            have H4 := Lib.hid h4
            clear h3 h4
            go_wp2_with fail
            go_ret
            rw [HS2.out]
            exact ⟨rfl, by first | exact H3.out | (rw [HA.out]; exact H3.out), H4.out⟩
          · have HS2 : Hid (st = (0, left - 1, false, upd A i ((trimAct size) (A i)))) := Lib.hid (by rw [HS.out, HA.out, show max (left - 1) (-1) = left - 1 by omega]; rw [hwr, if_neg (by decide), if_neg (by omega)])
            have HI2 := Lib.hid (HI.out.setLeft (left - 1))
            have HB2 := Lib.hid (HB.out.setCell HI.out.hg (p := ⟨g, 1, none⟩) (.int .i64 (left - 1)))
            have hm1 : ¬ left = 0 := by omega
            have hm2 : max (left - 1) (-1) = left - 1 := by omega
            have hm3 : (-1 : Int) ≤ left - 1 := by omega
            clear HS
            have HBS3 := Lib.hid ((Below.heap_setCell _ ⟨g, 1, none⟩ (.int .i64 (left - 1)) bs (Nat.ne_of_gt HBG.out)).trans HBS.out)
            go_wp2_with fail
            refine (trim2_calls i hi bs size HRM.out HBS3.out HA.out HI2.out HB2.out (by have h1 := HU.out; have h2 := HSZ.out; rw [HA.out] at h2; have h3 : b.size ≤ usedTo A 4 := h2; omega)).mono ?_
            rintro e w3 ⟨rfl, h3, h4⟩
            have H3 := Lib.hid h3
            have H4 := Lib.hid h4
            clear h3 h4
            go_wp2_with fail
            go_ret
            rw [HS2.out]
            exact ⟨rfl, by first | exact H3.out | (rw [HA.out]; exact H3.out), H4.out⟩
        · have hwr : trimRef size (some (b, sr)) = 1 := if_neg hrm
          clear hrm
          have HS2 : Hid (st = (1, left, false, A)) := Lib.hid (by rw [HS.out]; rw [hwr]; rfl)
          clear HS
          go_wp2_with fail
          go_ret
          rw [HS2.out]
          exact ⟨rfl, ⟨_, _, HI.out⟩, HB.out⟩
theorem trim_calls (n size : Int) (hI : IsD X w0 w g room left down A K V) (hB : Below w0.heap.size w0 w) (hl : -1 ≤ left ∧ left ≤ 9223372036854775807) (hn64 : -9223372036854775808 ≤ n ∧ n ≤ 9223372036854775807) (hu : usedTo A 4 ≤ 9223372036854775807) :
    Calls Try.prog 31 #[.pointer (some ⟨g, 0, none⟩), .int .i64 n, .int .i64 size] w fun e w' => e = .returned (.int .i64 (stepR left down A n (trimRef size) (trimAct size)).1) ∧ AtD X w0 w' g room (stepR left down A n (trimRef size) (trimAct size)) := by
  have h1 := hI.alloc (.cells #[.int .i64 size] 3)
  have HS := Lib.hid (step_trim w.heap.size size n h1 (below_alloc' hB _) hl hn64 (heap_alloc_new w _) (lt_of_at hI.hb) hu)
  clear hI hB h1
  go_enter Try.func31, Try.ntmps31
  go_wp2_with fail
  refine HS.out.mono ?_
  rintro e w1 ⟨rfl, h⟩
  have H := Lib.hid h
  clear h
  go_wp2
  go_ret
  exact ⟨rfl, H.out⟩
/-- Is an area there? -/
def hasR (A : Nat → Ar) (n : Int) : Bool := if n < 0 ∨ 4 ≤ n then false else (A n.toNat).isSome
theorem has_calls (n : Int) (hI : IsD X w0 w g room left down A K V) : Calls Try.prog 28 #[.pointer (some ⟨g, 0, none⟩), .int .i64 n] w fun e w' => e = .returned (.bool (hasR A n)) ∧ w' = w := by
  rcases (show n < 0 ∨ 4 ≤ n ∨ (0 ≤ n ∧ n < 4) by omega) with hn | hn | ⟨hn0, hn4⟩
  · have HR : Hid (hasR A n = false) := Lib.hid (if_pos (.inl hn))
    clear hI
    go_enter Try.func28, Try.ntmps28
    go_wp2
    go_ret
    exact ⟨by rw [HR.out]; rfl, rfl⟩
  · have HR : Hid (hasR A n = false) := Lib.hid (if_pos (.inr hn))
    clear hI
    go_enter Try.func28, Try.ntmps28
    go_wp2
    go_ret
    exact ⟨by rw [HR.out]; rfl, rfl⟩
  · obtain ⟨i, rfl⟩ : ∃ i : Nat, n = (i : Int) := ⟨n.toNat, by omega⟩
    have hi : i < 4 := by omega
    have HR0 : Hid (hasR A (i : Int) = (A i).isSome) := Lib.hid (by unfold hasR; rw [if_neg (by omega), Int.toNat_natCast])
    have cp := hI.cp i hi
    clear hn0 hI
    cases hA : A i with
    | none =>
      rw [hA] at HR0
      rw [ptr_none hA] at cp
      clear hA
      go_enter Try.func28, Try.ntmps28
      go_wp2
      go_ret
      exact ⟨by rw [HR0.out]; rfl, rfl⟩
    | some x =>
      rw [hA] at HR0
      rw [ptr_some hA] at cp
      clear hA
      go_enter Try.func28, Try.ntmps28
      go_wp2
      go_ret
      exact ⟨by rw [HR0.out]; rfl, rfl⟩
end
end Go.Proofs.Ytccdmedhkbabpaa
/- strings.Builder, as this program has it (its copyCheck has a region that no run here comes to): WriteString and String. Conditions: those that each theorem names. -/
namespace Go.Proofs.Ytccdmedhkbabpaa
open Go.RowKit Go.Shelf Go.Proofs.YtccdmedhkbabpaaW.PrintWords

set_option maxHeartbeats 1000000 in
set_option maxRecDepth 100000 in
theorem copyCheck_used (b : Nat) (w : World) (h0 : w.cell? ⟨b, 0, none⟩ = some (.pointer (some ⟨b, 0, none⟩))) :
    Calls Try.prog 79 #[.pointer (some ⟨b, 0, none⟩)] w fun e w' => e = .returned (.tuple #[]) ∧ w' = w := by
  obtain ⟨j, hj, _⟩ := Option.map_eq_some_iff.1 (show (Try.prog.info? 104).map (·.size) = some 2 by kernel_rfl)
  go_enter Try.func79, Try.ntmps79
  go_wp2
  rw [Lib.run_neq_ptr_same w _ Try.underlying102 hj]
  go_wp2
  go_end0
  exact ⟨rfl, rfl⟩

set_option maxHeartbeats 1000000 in
set_option maxRecDepth 100000 in
theorem copyCheck_fresh (b : Nat) (w : World) (h0 : w.cell? ⟨b, 0, none⟩ = some (.pointer none)) (hsh : w.shape? b = some (104, 2)) (hfz : w.frozen? ⟨b, 0, none⟩ = false) :
    Calls Try.prog 79 #[.pointer (some ⟨b, 0, none⟩)] w fun e w' => e = .returned (.tuple #[]) ∧ w' = w.setCell ⟨b, 0, none⟩ (.pointer (some ⟨b, 0, none⟩)) := by
  obtain ⟨j, hj, hjs⟩ := Option.map_eq_some_iff.1 (show (Try.prog.info? 104).map (·.size) = some 2 by kernel_rfl)
  go_enter Try.func79, Try.ntmps79
  go_wp2
  rw [Lib.run_to_unsafe w ⟨b, 0, none⟩ Try.underlying102 Try.underlying138 hj (by rw [hjs]; decide) hsh (Nat.zero_lt_succ 1)]
  simp only [Result.andThen]
  rw [Oper.upon_value]
  go_wp2
  rw [run_callFunc_extern Try.func91 (by kernel_rfl) (by kernel_rfl) (by kernel_rfl) (e := Extern.AbiNoEscape.same) (by kernel_rfl)]
  rw [Lib.run_noEscape]
  simp only [Result.andThen]
  rw [Oper.upon_value]
  go_wp2
  rw [Lib.run_from_unsafe w ⟨b, 0, none⟩ Try.underlying138 Try.underlying102 hj hsh (by kernel_rfl)]
  simp only [Result.andThen]
  rw [Oper.upon_value]
  go_wp2
  go_end0
  exact ⟨rfl, rfl⟩

theorem copyCheck_calls (B b : Nat) (bs : List Value) (w : World) (h : Lib.IsBuilder 104 5 B b bs w) :
    Calls Try.prog 79 #[.pointer (some ⟨b, 0, none⟩)] w fun e w' => e = .returned (.tuple #[]) ∧ (Lib.BuilderAt 104 5 B b (.pointer (some ⟨b, 0, none⟩)) bs w' ∧ Below B w w') := by
  rcases h with h | h
  · refine (copyCheck_fresh b w h.cell0 h.shape h.frozen0).mono ?_
    rintro e w' ⟨rfl, rfl⟩
    exact ⟨rfl, h.used _, (Below.refl B w).setCell (p := ⟨b, 0, none⟩) h.1 _⟩
  · refine (copyCheck_used b w h.cell0).mono ?_
    rintro e w' ⟨rfl, rfl⟩
    exact ⟨rfl, h, Below.refl B _⟩

set_option maxHeartbeats 2000000 in
set_option maxRecDepth 100000 in
theorem writeString_calls (B b : Nat) (bs : List Value) (s : ByteArray) (w : World) (h : Lib.IsBuilder 104 5 B b bs w) (hlen : bs.length + s.size ≤ 140737488355328) (hBw : B ≤ w.heap.size) :
    Calls Try.prog 51 #[.pointer (some ⟨b, 0, none⟩), .string s] w fun e w' => e = .returned (.tuple #[.int .i64 s.size, .nilIface]) ∧ (Lib.BuilderAt 104 5 B b (.pointer (some ⟨b, 0, none⟩)) (bs ++ Lib.strCells s) w' ∧ Below B w w') := by
  obtain ⟨i0, hi, hz0, hz1, hz2⟩ := info_parts (show (Try.prog.info? 5).map (fun i => (i.zero, i.size, i.bytes)) = some (some (.int .u8 0), 1, 1) by kernel_rfl)
  have HC := Lib.hid (copyCheck_calls B b bs w h)
  go_enter Try.func51, Try.ntmps51
  go_wp2_with fail
  refine HC.out.mono ?_
  rintro e w1 ⟨rfl, h1, hb1⟩
  obtain ⟨hB, v, hbk, hown, hne⟩ := h1
  have c0 : w1.cell? ⟨b, 0, none⟩ = some (.pointer (some ⟨b, 0, none⟩)) := by rw [Lib.cell_of_heap hbk]; rfl
  have c1 : w1.cell? ⟨b, 1, none⟩ = some v := by rw [Lib.cell_of_heap hbk]; rfl
  go_wp2_with (at_builtin; refine Lib.wpList_append_own_string _ rfl _ _ 82 9 rfl B 5 i0 Try.underlying82 Try.underlying9 hi hz0 hz1 hz2 _ _ _ rfl hown s rfl ?c3 ?c4 ?c5 ?_)
  case c3 => unfold maxLen; omega
  case c4 => omega
  case c5 => have := hb1.size; omega
  intro v' w2 hown' hgrow _
  have hlt : b < w1.heap.size := by
    rcases Nat.lt_or_ge b w1.heap.size with h' | h'
    · exact h'
    · simp [Array.getElem?_eq_none h'] at hbk
  have hb2 : w2.heap[b]? = some (.cells #[.pointer (some ⟨b, 0, none⟩), v] 104 (0, 0)) := by
    rw [hgrow.block b hlt (fun e => hne e.symm)]
    exact hbk
  have d0 : w2.cell? ⟨b, 0, none⟩ = some (.pointer (some ⟨b, 0, none⟩)) := by rw [Lib.cell_of_heap hb2]; rfl
  have d1 : w2.cell? ⟨b, 1, none⟩ = some v := by rw [Lib.cell_of_heap hb2]; rfl
  have f1 : w2.frozen? ⟨b, 1, none⟩ = false := Lib.frozen_of_heap hb2 1
  obtain ⟨ao, n', cap, rfl⟩ : ∃ ao n' cap, v' = .slice ao n' cap := by
    rcases hown'.2 with ⟨hv, _⟩ | ⟨g, cap, cur, hv, _⟩
    · exact ⟨_, _, _, hv⟩
    · exact ⟨_, _, _, hv⟩
  go_wp2
  go_ret2
  refine ⟨rfl, ?_, ?_⟩
  · exact Lib.BuilderAt.put (T := 104) (e := 5) hB hb2 (bs' := bs ++ Lib.strCells s) (by simpa [Lib.strCells_length] using hown') (by decide)
  · exact (hb1.grown hgrow (by have := hb1.size; omega) (fun k hk => (hown.lt k hk).1)).setCell (p := ⟨b, 1, none⟩) hB _
end Go.Proofs.Ytccdmedhkbabpaa
/- The log's block beside the drum; its small functions: write, Append, Gen, Size. Conditions: those that each theorem names. -/
namespace Go.Proofs.Ytccdmedhkbabpaa
open Go.RowKit Go.Proofs.YtccdmedhkbabpaaW.PrintWords

def lobj (g : Nat) (area : Int) (gen : Int) : Obj := .cells #[.pointer (some ⟨g, 0, none⟩), .int .i64 area, .int .u64 gen] 69 (0, 0)
/-- The log's own block, and what else there is. -/
def LX (Y : Nat → Obj → Prop) (gl g : Nat) (area gen : Int) : Nat → Obj → Prop := fun k o => (k = gl ∧ o = lobj g area gen) ∨ Y k o
theorem lobj_ok (g : Nat) (area gen : Int) : XOk (lobj g area gen) := ⟨_, _, _, rfl, by decide, by decide, by decide⟩
/-- Bytes behind an area's, and they are sure. -/
def wsR (room left : Int) (down : Bool) (A : Nat → Ar) (n : Int) (s : ByteArray) : Int × Int × Bool × (Nat → Ar) :=
  if (stepR left down A n (writeRef (usedTo A 4) s.size room) (writeAct s)).1 = 0 then
    stepR (stepR left down A n (writeRef (usedTo A 4) s.size room) (writeAct s)).2.1 (stepR left down A n (writeRef (usedTo A 4) s.size room) (writeAct s)).2.2.1 (stepR left down A n (writeRef (usedTo A 4) s.size room) (writeAct s)).2.2.2 n thereRef syncAct
  else stepR left down A n (writeRef (usedTo A 4) s.size room) (writeAct s)
theorem stepR_left (left : Int) (down : Bool) (A : Nat → Ar) (n : Int) (refuse : Ar → Int) (act : Ar → Ar) (h : -1 ≤ left ∧ left ≤ 9223372036854775807) : -1 ≤ (stepR left down A n refuse act).2.1 ∧ (stepR left down A n refuse act).2.1 ≤ 9223372036854775807 := by
  unfold stepR
  repeat' split
  all_goals first | exact h | (simp only []; omega)
variable {Y : Nat → Obj → Prop} {w0 w : World} {g gl : Nat} {room left area gen : Int} {down : Bool} {A : Nat → Ar} {K : Nat → Nat} {V : Nat → Value}
theorem LX.at (h : IsD (LX Y gl g area gen) w0 w g room left down A K V) : w.heap[gl]? = some (lobj g area gen) := (h.hx gl _ (.inl ⟨rfl, rfl⟩)).1
theorem LX.c0 (h : IsD (LX Y gl g area gen) w0 w g room left down A K V) : w.cell? ⟨gl, 0, none⟩ = some (.pointer (some ⟨g, 0, none⟩)) := (blk_cell (LX.at h) 0).trans rfl
theorem LX.c1 (h : IsD (LX Y gl g area gen) w0 w g room left down A K V) : w.cell? ⟨gl, 1, none⟩ = some (.int .i64 area) := (blk_cell (LX.at h) 1).trans rfl
theorem LX.c2 (h : IsD (LX Y gl g area gen) w0 w g room left down A K V) : w.cell? ⟨gl, 2, none⟩ = some (.int .u64 gen) := (blk_cell (LX.at h) 2).trans rfl

set_option maxRecDepth 100000 in
set_option maxHeartbeats 4000000 in
theorem lwrite_calls (n : Int) (s : ByteArray) (hI : IsD (LX Y gl g area gen) w0 w g room left down A K V) (hB : Below w0.heap.size w0 w) (hl : -1 ≤ left ∧ left ≤ 9223372036854775807) (hn64 : -9223372036854775808 ≤ n ∧ n ≤ 9223372036854775807) (hu : usedTo A 4 + s.size ≤ 9223372036854775807) (hrm0 : room ≤ 140737488355328) :
    Calls Try.prog 33 #[.pointer (some ⟨gl, 0, none⟩), .int .i64 n, .string s] w fun e w' => e = .returned (.int .i64 (wsR room left down A n s).1) ∧ AtD (LX Y gl g area gen) w0 w' g room (wsR room left down A n s) := by
  have c0 := LX.c0 hI
  have HW := Lib.hid (write_calls n s hI hB hl hn64 hu hrm0)
  have HL := Lib.hid (stepR_left left down A n (writeRef (usedTo A 4) s.size room) (writeAct s) hl)
  have HN := Lib.hid hn64
  obtain ⟨r, hr⟩ : ∃ r, r = stepR left down A n (writeRef (usedTo A 4) s.size room) (writeAct s) := ⟨_, rfl⟩
  have HR : Hid (wsR room left down A n s = if r.1 = 0 then stepR r.2.1 r.2.2.1 r.2.2.2 n thereRef syncAct else r) := Lib.hid (by rw [hr]; rfl)
  rw [← hr] at HW HL
  clear hI hB hl hn64 hu hrm0 hr
  go_enter Try.func33, Try.ntmps33
  go_wp2_with fail
  refine HW.out.mono ?_
  rintro e w1 ⟨rfl, ⟨K1, V1, hI1⟩, hB1⟩
  have HI1 := Lib.hid hI1
  have HB1 := Lib.hid hB1
  have d0 := LX.c0 hI1
  clear hI1 hB1 HW c0
  obtain ⟨r1, hr1⟩ : ∃ x, x = r.1 := ⟨_, rfl⟩
  rw [← hr1] at HR ⊢
  rcases (show r1 = 0 ∨ r1 ≠ 0 by omega) with hz | hz
  · rw [if_pos hz] at HR
    subst hz
    go_wp2_with fail
    refine (sync_calls n HI1.out HB1.out HL.out HN.out).mono ?_
    rintro e w2 ⟨rfl, hA⟩
    have HA := Lib.hid hA
    clear hA HI1 HB1 d0
    go_wp2_with fail
    go_ret
    rw [HR.out]
    exact ⟨rfl, HA.out⟩
  · rw [if_neg hz] at HR
    go_wp2_with fail
    go_ret
    rw [HR.out]
    exact ⟨rfl, ⟨K1, V1, HI1.out⟩, HB1.out⟩
end Go.Proofs.Ytccdmedhkbabpaa
/- The log's Append and Gen. Conditions: those that each theorem names. -/
namespace Go.Proofs.Ytccdmedhkbabpaa
open Go.RowKit Go.Proofs.YtccdmedhkbabpaaW.PrintWords
variable {Y : Nat → Obj → Prop} {w0 w : World} {g gl : Nat} {room left area gen : Int} {down : Bool} {A : Nat → Ar} {K : Nat → Nat} {V : Nat → Value}

/-- A record's frame. -/
def recF (s : ByteArray) : ByteArray := (wrp ((⟨#[82]⟩ : ByteArray) ++ s)).1
def appR (room left : Int) (down : Bool) (A : Nat → Ar) (area : Int) (s : ByteArray) : Int × Int × Bool × (Nat → Ar) :=
  if 16000 < s.size then (3, left, down, A) else wsR room left down A area (recF s)
set_option maxRecDepth 100000 in
set_option maxHeartbeats 4000000 in
theorem lappend_calls (s : ByteArray) (hI : IsD (LX Y gl g area gen) w0 w g room left down A K V) (hB : Below w0.heap.size w0 w) (hl : -1 ≤ left ∧ left ≤ 9223372036854775807) (ha64 : -9223372036854775808 ≤ area ∧ area ≤ 9223372036854775807) (hs : s.size ≤ 140737488355328) (hu : s.size ≤ 16000 → usedTo A 4 + (recF s).size ≤ 9223372036854775807) (hrm0 : room ≤ 140737488355328) :
    Calls Try.prog 11 #[.pointer (some ⟨gl, 0, none⟩), .string s] w fun e w' => e = .returned (.int .i64 (appR room left down A area s).1) ∧ AtD (LX Y gl g area gen) w0 w' g room (appR room left down A area s) := by
  rcases (show 16000 < s.size ∨ s.size ≤ 16000 by omega) with h | h
  · have HR : Hid (appR room left down A area s = (3, left, down, A)) := Lib.hid (if_pos h)
    have hx : (16000 : Int) < (s.size : Int) := by omega
    have HI := Lib.hid hI
    have HB := Lib.hid hB
    clear hI hB hl ha64 hu hrm0 h
    go_enter Try.func11, Try.ntmps11
    go_wp2_with fail
    go_ret
    rw [HR.out]
    exact ⟨rfl, ⟨_, _, HI.out⟩, HB.out⟩
  · have HR : Hid (appR room left down A area s = wsR room left down A area (recF s)) := Lib.hid (if_neg (by omega))
    have hx : ¬ (16000 : Int) < (s.size : Int) := by omega
    have HW := Lib.hid (wrap_calls ((⟨#[82]⟩ : ByteArray) ++ s) w)
    have HU := Lib.hid (hu h)
    have HL := Lib.hid hl
    have HA := Lib.hid ha64
    have HRM := Lib.hid hrm0
    have HI := Lib.hid hI
    have HB := Lib.hid hB
    have HF : Hid ((wrp ((⟨#[82]⟩ : ByteArray) ++ s)).1 = recF s) := Lib.hid rfl
    clear hI hB hl ha64 hu hrm0 h
    go_enter Try.func11, Try.ntmps11
    go_wp2_with fail
    refine HW.out.mono ?_
    rintro e w1 ⟨rfl, hb⟩
    rw [HF.out]
    generalize (wrp ((⟨#[82]⟩ : ByteArray) ++ s)).2 = q
    have hI1 := HI.out.below hb
    have HI1 := Lib.hid hI1
    have HB1 := Lib.hid (below_then HB.out HB.out.size hb)
    have d1 := LX.c1 hI1
    clear hI1 hb HI HB HW
    generalize recF s = fr at *
    go_wp2_with fail
    refine (lwrite_calls area fr HI1.out HB1.out HL.out HA.out HU.out HRM.out).mono ?_
    rintro e w2 ⟨rfl, hA⟩
    have HA2 := Lib.hid hA
    clear hA
    go_wp2_with fail
    go_ret
    rw [HR.out]
    exact ⟨rfl, HA2.out⟩
theorem lappend_nil (s : ByteArray) (w : World) : Calls Try.prog 11 #[.pointer none, .string s] w fun e w' => e = .returned (.int .i64 11) ∧ w' = w := by
  go_enter Try.func11, Try.ntmps11
  go_wp2_with fail
  go_ret
  exact ⟨rfl, rfl⟩
theorem lgen_calls (hI : IsD (LX Y gl g area gen) w0 w g room left down A K V) : Calls Try.prog 19 #[.pointer (some ⟨gl, 0, none⟩)] w fun e w' => e = .returned (.int .u64 gen) ∧ w' = w := by
  have c2 := LX.c2 hI
  clear hI
  go_enter Try.func19, Try.ntmps19
  go_wp2_with fail
  go_ret
  exact ⟨rfl, rfl⟩
end Go.Proofs.Ytccdmedhkbabpaa
/- lay's closure: a frame more in the builder. Conditions: those that each theorem names. -/
namespace Go.Proofs.Ytccdmedhkbabpaa
open Go.RowKit Go.Proofs.YtccdmedhkbabpaaW.PrintWords

theorem builder_below {T e : TypeId} {B b : Nat} {p : Value} {bs : List Value} {w w' : World} (h : Lib.BuilderAt T e B b p bs w) (hb : Below w.heap.size w w') : Lib.BuilderAt T e B b p bs w' := by
  obtain ⟨h1, v, h2, h3, h4⟩ := h
  exact ⟨h1, v, (hb.block b (lt_of_at h2)).trans h2, own_move h3 (fun k hk => hb.block k (own_lt h3 k hk)), h4⟩
theorem isBuilder_below {T e : TypeId} {B b : Nat} {bs : List Value} {w w' : World} (h : Lib.IsBuilder T e B b bs w) (hb : Below w.heap.size w w') : Lib.IsBuilder T e B b bs w' :=
  h.imp (fun h => builder_below h hb) (fun h => builder_below h hb)
set_option maxRecDepth 100000 in
set_option maxHeartbeats 400000 in
theorem put_calls (B b : Nat) (bs : List Value) (p fr : ByteArray) (hfr : (wrp p).1 = fr) (w : World) (h : Lib.IsBuilder 104 5 B b bs w) (hlen : bs.length + fr.size ≤ 140737488355328) (hBw : B ≤ w.heap.size) :
    Calls Try.prog 50 #[.string p, .pointer (some ⟨b, 0, none⟩)] w fun e w' => e = .returned (.tuple #[]) ∧ Lib.IsBuilder 104 5 B b (bs ++ Lib.strCells fr) w' ∧ Below B w w' := by
  have HW := Lib.hid (wrap_calls p w)
  have HH := Lib.hid h
  have HF := Lib.hid hfr
  clear h hfr
  go_enter Try.func50, Try.ntmps50
  go_wp2_with fail
  refine HW.out.mono ?_
  rintro e w1 ⟨rfl, hb⟩
  rw [HF.out]
  generalize (wrp p).2 = q
  have HS := Lib.hid (writeString_calls B b bs fr w1 (isBuilder_below HH.out hb) hlen (Nat.le_trans hBw hb.size))
  have HB := Lib.hid (hb.mono hBw)
  clear HH HW hb hlen HF
  go_wp2_with fail
  refine HS.out.mono ?_
  rintro e w2 ⟨rfl, h1, h2⟩
  have H1 := Lib.hid h1
  have H2 := Lib.hid h2
  clear h1 h2 HS
  go_wp2_with fail
  go_end0
  exact ⟨rfl, .inr H1.out, HB.out.trans H2.out⟩
end Go.Proofs.Ytccdmedhkbabpaa
/- What holds of a drum's areas all along, and that each step keeps it. Conditions: those that each theorem names. -/
namespace Go.Proofs.Ytccdmedhkbabpaa
open Go.RowKit Go.Proofs.YtccdmedhkbabpaaW.PrintWords

section
variable {room left : Int} {down : Bool} {A : Nat → Ar}
/-- What holds of a drum's areas all along. -/
structure Fit (room left : Int) (A : Nat → Ar) : Prop where
  sb : ∀ i, i < 4 → ∀ b s, A i = some (b, s) → s ≤ b.size
  used : ((usedTo A 4 : Nat) : Int) ≤ room
  left : -1 ≤ left ∧ left ≤ 9223372036854775807
theorem used_upd (A : Nat → Ar) (n : Nat) (hn : n < 4) (x : Ar) : usedTo (upd A n x) 4 + sz (A n) = usedTo A 4 + sz x := by
  rcases (show n = 0 ∨ n = 1 ∨ n = 2 ∨ n = 3 by omega) with rfl | rfl | rfl | rfl <;> simp [usedTo, upd] <;> omega
theorem Fit.step (h : Fit room left A) (n : Int) (refuse : Ar → Int) (act : Ar → Ar)
    (h1 : ∀ i, i < 4 → refuse (A i) = 0 → ∀ b s, act (A i) = some (b, s) → s ≤ b.size)
    (h2 : ∀ i, i < 4 → refuse (A i) = 0 → ((usedTo A 4 + sz (act (A i)) : Nat) : Int) ≤ room + sz (A i)) :
    Fit room (stepR left down A n refuse act).2.1 (stepR left down A n refuse act).2.2.2 := by
  have hl := h.left
  unfold stepR
  split
  · exact h
  · split
    · exact h
    · rename_i hn
      split
      · exact h
      · rename_i hr
        split
        · exact h
        · have hi : n.toNat < 4 := by omega
          have hr0 : refuse (A n.toNat) = 0 := by omega
          show Fit room (max (left - 1) (-1)) (upd A n.toNat (act (A n.toNat)))
          refine ⟨?_, ?_, by omega⟩
          · intro i hi' b s e
            by_cases en : i = n.toNat
            · subst en; rw [upd_at] at e; exact h1 _ hi hr0 b s e
            · rw [upd_ne _ _ en] at e; exact h.sb i hi' b s e
          · have := used_upd A n.toNat hi (act (A n.toNat))
            have := h2 _ hi hr0
            show ((usedTo (upd A n.toNat (act (A n.toNat))) 4 : Nat) : Int) ≤ room
            omega
theorem sz_fallA (xs : List Int) (i : Nat) (a : Ar) (h : ∀ b s, a = some (b, s) → s ≤ b.size) : sz (fallA xs i a) ≤ sz a := by
  cases a with
  | none => exact Nat.le_refl _
  | some x =>
    show (x.1.extract 0 _).size ≤ x.1.size
    rw [ByteArray.size_extract]
    omega
theorem Fit.fall (h : Fit room left A) (xs : List Int) : Fit room (-1) (fallTo xs A 4) := by
  have e : ∀ i, i < 4 → fallTo xs A 4 i = fallA xs i (A i) := fun i hi => if_pos hi
  refine ⟨?_, ?_, by decide⟩
  · intro i hi b s hb
    rw [e i hi] at hb
    cases hA : A i with
    | none => rw [hA] at hb; cases hb
    | some x =>
      rw [hA] at hb
      injection hb with hb
      injection hb with h1 h2
      subst h1 h2
      exact Nat.le_refl _
  · have hs : ∀ i, i < 4 → sz (fallTo xs A 4 i) ≤ sz (A i) := fun i hi => by rw [e i hi]; exact sz_fallA xs i _ (h.sb i hi)
    have := h.used
    have := hs 0 (by decide)
    have := hs 1 (by decide)
    have := hs 2 (by decide)
    have := hs 3 (by decide)
    simp only [usedTo] at *
    omega
/-- What a step leaves, as one thing: its answer, the fuel, whether it is down, the areas. -/
abbrev Rs := Int × Int × Bool × (Nat → Ar)
def FitR (room : Int) (r : Rs) : Prop := Fit room r.2.1 r.2.2.2
theorem Fit.lay (h : Fit room left A) (n : Int) : FitR room (stepR left down A n layRef layAct) := by
  have hu := h.used
  refine h.step _ _ _ ?_ ?_
  · intro i hi _ b s e; injection e with e; injection e with e1 e2; subst e1 e2; exact Nat.zero_le _
  · intro i hi hr
    show ((usedTo A 4 + 0 : Nat) : Int) ≤ _
    omega
theorem Fit.cut (h : Fit room left A) (n : Int) : FitR room (stepR left down A n thereRef cutAct) := by
  have hu := h.used
  refine h.step _ _ _ ?_ ?_
  · intro i hi _ b s e; cases e
  · intro i hi hr
    show ((usedTo A 4 + 0 : Nat) : Int) ≤ _
    omega
theorem Fit.trim (h : Fit room left A) (n size : Int) : FitR room (stepR left down A n (trimRef size) (trimAct size)) := by
  have hu := h.used
  refine h.step _ _ _ ?_ ?_
  · intro i hi _ b s e
    cases hA : A i with
    | none => rw [hA] at e; cases e
    | some x => rw [hA] at e; injection e with e; injection e with e1 e2; subst e1 e2; exact Nat.le_refl _
  · intro i hi hr
    have : sz (trimAct size (A i)) ≤ sz (A i) := by
      cases A i with
      | none => exact Nat.le_refl _
      | some x =>
        show (x.1.extract 0 _).size ≤ x.1.size
        rw [ByteArray.size_extract]
        omega
    omega
theorem Fit.write (h : Fit room left A) (n : Int) (x : ByteArray) : FitR room (stepR left down A n (writeRef (usedTo A 4) x.size room) (writeAct x)) := by
  have hu := h.used
  refine h.step _ _ _ ?_ ?_
  · intro i hi _ b s e
    cases hA : A i with
    | none => rw [hA] at e; cases e
    | some y =>
      rw [hA] at e
      injection e with e
      injection e with e1 e2
      have := h.sb i hi y.1 y.2 hA
      have : b.size = y.1.size + x.size := by rw [← e1, ByteArray.size_append]
      omega
  · intro i hi hr
    cases hA : A i with
    | none => rw [hA] at hr; cases hr
    | some y =>
      rw [hA] at hr
      have hr2 : (if ((usedTo A 4 + x.size : Nat) : Int) ≤ room then (0 : Int) else 10) = 0 := hr
      have hc : ((usedTo A 4 + x.size : Nat) : Int) ≤ room := by
        by_cases hc : ((usedTo A 4 + x.size : Nat) : Int) ≤ room
        · exact hc
        · rw [if_neg hc] at hr2; cases hr2
      show ((usedTo A 4 + (y.1 ++ x).size : Nat) : Int) ≤ room + (y.1.size : Nat)
      rw [ByteArray.size_append]
      omega
theorem Fit.sync (h : Fit room left A) (n : Int) : FitR room (stepR left down A n thereRef syncAct) := by
  have hu := h.used
  refine h.step _ _ _ ?_ ?_
  · intro i hi _ b s e
    cases hA : A i with
    | none => rw [hA] at e; cases e
    | some x => rw [hA] at e; injection e with e; injection e with e1 e2; subst e1 e2; exact Nat.le_refl _
  · intro i hi hr
    have : sz (syncAct (A i)) = sz (A i) := by cases A i <;> rfl
    omega
theorem Fit.fuel (h : Fit room left A) (n : Int) (hn : n ≤ 9223372036854775807) : Fit room (max n (-1)) A := ⟨h.sb, h.used, by omega⟩
end
end Go.Proofs.Ytccdmedhkbabpaa
/- lay: a new area with a log. Conditions: those that each theorem names. -/
namespace Go.Proofs.Ytccdmedhkbabpaa
open Go.RowKit Go.Proofs.YtccdmedhkbabpaaW.PrintWords

/-- Frames, one behind the other. -/
def frs : List ByteArray → ByteArray
  | [] => ByteArray.empty
  | p :: ps => (wrp p).1 ++ frs ps
theorem frs_append (a b : List ByteArray) : frs (a ++ b) = frs a ++ frs b := by
  induction a with
  | nil => simp [frs]
  | cons x a ih => simp [frs, ih, ByteArray.append_assoc]
theorem frs_snoc (a : List ByteArray) (p : ByteArray) : frs (a ++ [p]) = frs a ++ (wrp p).1 := by rw [frs_append]; simp [frs]
def gP (gen : Int) : ByteArray := (⟨#[71]⟩ : ByteArray) ++ encB gen
def cP (r : ByteArray) : ByteArray := (⟨#[67]⟩ : ByteArray) ++ r
def eP : ByteArray := ⟨#[69]⟩
/-- A new log's frames, up to the k-th record. -/
def layTo (gen : Int) (rs : List ByteArray) (k : Nat) : List ByteArray := gP gen :: (rs.take k).map cP
def layB (gen : Int) (rs : List ByteArray) : ByteArray := frs (layTo gen rs rs.length ++ [eP])
theorem layTo_succ (gen : Int) (rs : List ByteArray) (k : Nat) (h : k < rs.length) : layTo gen rs (k + 1) = layTo gen rs k ++ [cP rs[k]] := by
  unfold layTo
  rw [List.take_succ_eq_append_getElem h, List.map_append]; rfl
theorem layTo_le (gen : Int) (rs : List ByteArray) (k : Nat) (h : k ≤ rs.length) : (frs (layTo gen rs k)).size ≤ (layB gen rs).size := by
  have e : layTo gen rs rs.length = layTo gen rs k ++ (rs.drop k).map cP := by
    unfold layTo
    rw [List.take_of_length_le (Nat.le_refl _), List.cons_append, ← List.map_append, List.take_append_drop]
  unfold layB
  rw [e, frs_append, frs_append, ByteArray.size_append, ByteArray.size_append]; omega
theorem layTo_next (gen : Int) (rs : List ByteArray) (k : Nat) (h : k < rs.length) : (frs (layTo gen rs k)).size + (wrp (cP rs[k])).1.size ≤ (layB gen rs).size := by
  have h1 := layTo_le gen rs (k + 1) h
  rw [layTo_succ gen rs k h, frs_snoc, ByteArray.size_append] at h1; exact h1
theorem layB_eq (gen : Int) (rs : List ByteArray) : layB gen rs = frs (layTo gen rs rs.length) ++ (wrp eP).1 := frs_snoc _ _
theorem layTo_zero (gen : Int) (rs : List ByteArray) : frs (layTo gen rs 0) = (wrp (gP gen)).1 := by
  unfold layTo; simp [frs]
theorem strCells_append (a b : ByteArray) : Lib.strCells (a ++ b) = Lib.strCells a ++ Lib.strCells b := by
  unfold Lib.strCells; rw [ByteArray.data_append]; simp
/-- A builder that holds these bytes. -/
def IsBu (B b : Nat) (x : ByteArray) (w : World) : Prop := Lib.IsBuilder 104 5 B b (Lib.strCells x) w
theorem bput_calls (B b : Nat) (x : ByteArray) (p fr : ByteArray) (hfr : (wrp p).1 = fr) (w : World) (h : IsBu B b x w) (hlen : x.size + fr.size ≤ 140737488355328) (hBw : B ≤ w.heap.size) :
    Calls Try.prog 50 #[.string p, .pointer (some ⟨b, 0, none⟩)] w fun e w' => e = .returned (.tuple #[]) ∧ IsBu B b (x ++ fr) w' ∧ Below B w w' := by
  have h := put_calls B b (Lib.strCells x) p fr hfr w h (by rw [Lib.strCells_length]; exact hlen) hBw
  unfold IsBu
  rw [strCells_append]
  exact h
theorem bstring_calls (B b : Nat) (x : ByteArray) (w : World) (h : IsBu B b x w) (hBw : B ≤ w.heap.size) :
    Calls Try.prog 54 #[.pointer (some ⟨b, 0, none⟩)] w fun e w' => e = .returned (.string x) ∧ Below B w w' := by
  refine (Try.Builder_String_any B b x.data.toList w h hBw).mono ?_
  rintro e w' ⟨rfl, h⟩
  exact ⟨by simp, h⟩
/-- Beside the drum and what is told of other blocks, a slice of texts. -/
def StrOn (Y : Nat → Obj → Prop) (w0 : World) (R : Option Addr) (rs : List ByteArray) : Prop := ∀ W : World, Below w0.heap.size w0 W → (∀ k o, Y k o → W.heap[k]? = some o) → Kd.string.C W R rs.length rs
/-- The areas behind lay. -/
def layR (room left : Int) (down : Bool) (A : Nat → Ar) (n gen : Int) (rs : List ByteArray) : Rs :=
  if (stepR left down A n layRef layAct).1 = 0 then
    wsR room (stepR left down A n layRef layAct).2.1 (stepR left down A n layRef layAct).2.2.1 (stepR left down A n layRef layAct).2.2.2 n (layB gen rs)
  else stepR left down A n layRef layAct
variable {Y : Nat → Obj → Prop} {w0 w : World} {g gl : Nat} {room left area ge : Int} {down : Bool} {A : Nat → Ar} {K : Nat → Nat} {V : Nat → Value}

set_option maxRecDepth 100000 in
set_option maxHeartbeats 4000000 in
theorem llay_calls (n gen : Int) (R : Option Addr) (c : Nat) (rs : List ByteArray) (hS : StrOn Y w0 R rs) (hc : rs.length ≤ c) (hI : IsD (LX Y gl g area ge) w0 w g room left down A K V) (hB : Below w0.heap.size w0 w) (hF : Fit room left A) (hn64 : -9223372036854775808 ≤ n ∧ n ≤ 9223372036854775807)
    (hg0 : 0 ≤ gen) (hg1 : gen ≤ 18446744073709551615) (hsz : (layB gen rs).size ≤ 140737488355328) (hrm0 : room ≤ 1048576) (hrl : rs.length ≤ 9223372036854775807) (hrz : ∀ x ∈ rs, x.size ≤ 140737488355328) :
    Calls Try.prog 30 #[.pointer (some ⟨gl, 0, none⟩), .int .i64 n, .int .u64 gen, .slice R rs.length c] w fun e w' => e = .returned (.int .i64 (layR room left down A n gen rs).1) ∧ AtD (LX Y gl g area ge) w0 w' g room (layR room left down A n gen rs) := by
  have c0 := LX.c0 hI
  have HL := Lib.hid (lay_calls n hI hB hF.left hn64)
  have HN := Lib.hid hn64
  have HF : Hid (FitR room (stepR left down A n layRef layAct)) := Lib.hid (hF.lay n)
  obtain ⟨r, hr⟩ : ∃ r, r = stepR left down A n layRef layAct := ⟨_, rfl⟩
  have HR : Hid (layR room left down A n gen rs = if r.1 = 0 then wsR room r.2.1 r.2.2.1 r.2.2.2 n (layB gen rs) else r) := Lib.hid (by rw [hr]; rfl)
  rw [← hr] at HL HF
  have HSZ := Lib.hid hsz
  have HG := Lib.hid (And.intro hg0 hg1)
  have HS := Lib.hid hS
  have HRM := Lib.hid hrm0
  have HRZ := Lib.hid hrz
  clear hI hB hF hn64 hr hsz hS hc hrm0 hg0 hg1 hrz
  go_enter Try.func30, Try.ntmps30
  go_wp2_with fail
  refine HL.out.mono ?_
  rintro e w1 ⟨rfl, ⟨K1, V1, hI1⟩, hB1⟩
  have HI1 := Lib.hid hI1
  have HB1 := Lib.hid hB1
  clear hI1 hB1 HL c0
  obtain ⟨r1, hr1⟩ : ∃ x, x = r.1 := ⟨_, rfl⟩
  rw [← hr1] at HR ⊢
  rcases (show r1 = 0 ∨ r1 ≠ 0 by omega) with hz | hz
  · rw [if_pos hz] at HR
    subst hz
    have HRR := Lib.hid hr1
    clear hr1
    obtain ⟨B, hBs⟩ : ∃ B, B = w1.heap.size := ⟨_, rfl⟩
    have HBS := Lib.hid hBs
    have HBu : Hid (IsBu B B ByteArray.empty (w1.alloc (.cells #[.pointer none, .slice none 0 0] 104))) := Lib.hid (by rw [hBs]; exact Lib.fresh_isBuilder _ _ w1)
    obtain ⟨w2, hw2⟩ : ∃ w2, w2 = w1.alloc (.cells #[.pointer none, .slice none 0 0] 104) := ⟨_, rfl⟩
    have hs2 : w2.heap.size = B + 1 := by rw [hw2, hBs]; simp
    have HB2 : Hid (Below B w1 w2) := Lib.hid (by rw [hw2, hBs]; exact below_alloc (Below.refl _ _) _)
    rw [← hw2] at HBu
    have HS2 := Lib.hid hs2
    have HW2 := Lib.hid (IsS112.made w2 w2 (Nat.le_refl _))
    have HBW2 := Lib.hid (below_alloc' (Below.refl w2.heap.size w2) (.cells #[.slice none 0 0] 112))
    rw [hs2] at HW2
    have HW2E := Lib.hid hw2
    clear hs2
    go_wp2_with fail
    rw [← hBs, ← hw2]
    clear hw2 hBs
    refine (wnum w2 _ (B + 1) _ gen HG.out.1 HG.out.2 HW2.out HBW2.out (by show 0 + 9 ≤ _; omega)).mono ?_
    rintro e w3 ⟨rfl, hW, hB, hk⟩
    rw [ByteArray.empty_append] at hW
    have HW3 := Lib.hid hW
    have HB3 := Lib.hid hB
    clear hW hB hk HW2 HBW2
    have hus := (encB_size HG.out.2).2
    have HZ0 := Lib.hid (layTo_le gen rs 0 (Nat.zero_le _))
    have HT0 := Lib.hid (layTo_zero gen rs)
    generalize hU : encB gen = U at *
    have HU := Lib.hid hU
    clear hU
    go_wp2_with fail
    refine (wbytes w2 w3 (B + 1) U HW3.out HB3.out).mono ?_
    rintro e w4 ⟨rfl, hW, hB, hk⟩
    have HB4 : Hid (Below B w1 w4) := Lib.hid (HB2.out.trans (hB.mono (by rw [HS2.out]; omega)))
    have HBu4 : Hid (IsBu B B ByteArray.empty w4) := Lib.hid (isBuilder_below HBu.out hB)
    clear hW hB hk HW3 HB3 HBu HB2
    go_wp2_with fail
    have HTG : Hid ((wrp ((⟨#[71]⟩ : ByteArray) ++ U)).1 = frs (layTo gen rs 0)) := Lib.hid (by rw [HT0.out, ← HU.out]; rfl)
    generalize hX : (⟨#[71]⟩ : ByteArray) ++ U = X at *
    clear hX
    obtain ⟨T, hT⟩ : ∃ T, T = frs (layTo gen rs 0) := ⟨_, rfl⟩
    rw [← hT] at HTG
    refine (bput_calls B B ByteArray.empty X T HTG.out w4 HBu4.out (by have := HZ0.out; have := HSZ.out; rw [hT]; show 0 + _ ≤ _; omega) (by have := HB4.out.size; have := HBS.out; omega)).mono ?_
    rintro e w5 ⟨rfl, hW, hB⟩
    rw [ByteArray.empty_append, hT] at hW
    have HBu5 := Lib.hid hW
    have HB5 : Hid (Below B w1 w5) := Lib.hid (HB4.out.trans hB)
    clear hW hB hT HTG HBu4 HB4 HZ0 HT0 HU HW2E HS2 hus
    go_wp2_with fail
    go_loopg [37] (rs.length + 1) (fun gk v37 wr => ∃ (k : Nat), k ≤ rs.length ∧ v37 = .int .i64 (k : Int) ∧ Aside0 (k + gk = rs.length + 1) ∧ Aside0 (IsBu B B (frs (layTo gen rs k)) wr ∧ Below B w1 wr))
    case atStart => exact ⟨0, Nat.zero_le _, rfl, ⟨by omega⟩, ⟨HBu5.out, HB5.out⟩⟩
    case round =>
      obtain ⟨k, hk, rfl, ⟨hg⟩, ⟨hW, hB⟩⟩ := hrel
      have HBu := Lib.hid hW
      have HB := Lib.hid hB
      have HGK := Lib.hid hg
      clear hW hB hg HBu5 HB5
      have HBr : Hid (Below w1.heap.size w1 wr) := Lib.hid (by rw [← HBS.out]; exact HB.out)
      have HIr := Lib.hid (HI1.out.below HBr.out)
      have HB0r := Lib.hid (below_then HB1.out HB1.out.size HBr.out)
      rcases (show k < rs.length ∨ k = rs.length by omega) with hlt | hlt
      · have hC := HS.out wr HB0r.out (fun k o hk => (HIr.out.hx k o (.inr hk)).1)
        obtain ⟨ad, rfl, k0⟩ := Kd.at_string hC (k : Int) (by omega) (by omega)
        have hx : rdOf ByteArray.empty rs (k : Int) = rs[k] := by unfold rdOf; rw [List.getD_eq_getElem?_getD, Int.toNat_natCast, List.getElem?_eq_getElem hlt]; rfl
        rw [hx] at k0
        simp only [Int.toNat_natCast] at k0
        have hsx := HRZ.out rs[k] (List.getElem_mem hlt)
        have HN1 := Lib.hid (layTo_next gen rs k hlt)
        have HN2 := Lib.hid (layTo_succ gen rs k hlt)
        obtain ⟨x, hxx⟩ : ∃ x, x = rs[k] := ⟨_, rfl⟩
        rw [← hxx] at k0 hsx HN1 HN2
        clear hx hxx hC
        go_wp2_with fail
        generalize hX : (⟨#[67]⟩ : ByteArray) ++ x = X at *
        obtain rfl : cP x = X := hX
        refine (bput_calls B B _ (cP x) _ rfl _ HBu.out (by have := HN1.out; have := HSZ.out; omega) (by have := HB.out.size; have := HBS.out; omega)).mono ?_
        rintro e w6 ⟨rfl, hW, hB⟩
        rw [← frs_snoc, ← HN2.out] at hW
        have HBu6 := Lib.hid hW
        have HB6 := Lib.hid (HB.out.trans hB)
        clear hW hB HBu HB HN1 HN2
        go_wp2
        go_roundg (gk - 1)
        case measure => have := HGK.out; omega
        case rel => exact ⟨k + 1, by omega, by go_num, ⟨by have := HGK.out; omega⟩, ⟨HBu6.out, HB6.out⟩⟩
      · subst hlt
        clear HGK hk
        have HZ := Lib.hid (layB_eq gen rs)
        go_wp2_with fail
        refine (bput_calls B B _ eP _ rfl _ HBu.out (by have := HSZ.out; rw [HZ.out, ByteArray.size_append] at this; exact this) (by have := HB.out.size; have := HBS.out; omega)).mono ?_
        rintro e w6 ⟨rfl, hW, hB⟩
        rw [← HZ.out] at hW
        have HBu6 := Lib.hid hW
        have HB6 := Lib.hid (HB.out.trans hB)
        clear hW hB HBu HB HZ HBr HIr HB0r
        generalize hL : layB gen rs = L at *
        clear hL
        go_wp2_with fail
        refine (bstring_calls B B L _ HBu6.out (by have := HB6.out.size; have := HBS.out; omega)).mono ?_
        rintro e w7 ⟨rfl, hB⟩
        have HB7 : Hid (Below w1.heap.size w1 w7) := Lib.hid (by rw [← HBS.out]; exact HB6.out.trans hB)
        have HI7 := Lib.hid (HI1.out.below HB7.out)
        have HB07 := Lib.hid (below_then HB1.out HB1.out.size HB7.out)
        clear hB HBu6 HB6 HI1 HB1
        go_wp2_with fail
        have hFr : Fit room r.2.1 r.2.2.2 := HF.out
        refine (lwrite_calls n L HI7.out HB07.out hFr.left HN.out (by have := hFr.used; have := HRM.out; have := HSZ.out; omega) (by have := HRM.out; omega)).mono ?_
        rintro e w8 ⟨rfl, hA⟩
        have HA := Lib.hid hA
        clear hA HI7 HB07 hFr
        go_wp2_with fail
        go_ret
        rw [HR.out]
        exact ⟨rfl, HA.out⟩
  · rw [if_neg hz] at HR
    go_wp2_with fail
    go_ret
    rw [HR.out]
    exact ⟨rfl, ⟨K1, V1, HI1.out⟩, HB1.out⟩
end Go.Proofs.Ytccdmedhkbabpaa
/- log.head answers as the plain word hdL says. Conditions: those that each theorem names. -/
namespace Go.Proofs.Ytccdmedhkbabpaa
open Go.RowKit Go.Proofs.YtccdmedhkbabpaaW.PrintWords PRd PFr

def endE (s : ByteArray) (er : Int) : Int := if er = 0 then (if s.toList = ([] : List UInt8) then 0 else 2) else er
theorem rend {w0 w : World} {g : Nat} {s : ByteArray} {er : Int} (hI : IsS136 w0 w g s er) (hB : Below w0.heap.size w0 w) :
    Calls Try.prog 74 #[.pointer (some ⟨g, 0, none⟩)] w fun e w' => e = .returned (.int .i64 (endE s er)) ∧ Left_ w0 w w' g s er :=
  PRd.pack_Reader_End.calls g s er _ _ _ w0 w hI hB (by
    unfold pack_Reader_End.f endE
    show Option.bind (some (er, s, er)) _ = _
    simp only [Option.bind]
    split <;> (try split) <;> simp_all)
/-- A log's first frame: its generation, where the rest begins, whether it is one. -/
def hdL (s : ByteArray) : Int × Int × Bool :=
  if (nxt s).2.2 ≠ 0 ∨ Lib.hasPrefix (nxt s).1.data.toList [71] = false then (0, 0, false)
  else ((rdNum ((nxt s).1.extract 1 (nxt s).1.size) 0 18446744073709551615).1, (nxt s).2.1, decide (endE (rdNum ((nxt s).1.extract 1 (nxt s).1.size) 0 18446744073709551615).2.1 (rdNum ((nxt s).1.extract 1 (nxt s).1.size) 0 18446744073709551615).2.2 = 0))
abbrev hdV (s : ByteArray) : Value := .tuple #[.int .u64 (hdL s).1, .int .i64 (hdL s).2.1, .bool (hdL s).2.2]
set_option maxRecDepth 100000 in
set_option maxHeartbeats 1000000 in
theorem head_calls (s : ByteArray) (hs : s.size ≤ 281474976710656) (w : World) : Calls Try.prog 44 #[.string s] w fun e w' => e = .returned (hdV s) ∧ Below w.heap.size w w' := by
  obtain ⟨V, hV⟩ : ∃ V, V = hdL s := ⟨_, rfl⟩
  have HV := Lib.hid hV
  have HD : Hid (V = hdL s) := Lib.hid hV
  unfold hdL at hV
  have HQ := Lib.hid hV
  clear hV
  have HN := Lib.hid (next_calls s hs w)
  rw [nxtV] at HN
  generalize nxt s = nx at *
  obtain ⟨p, n, er⟩ := nx
  dsimp only at *
  go_enter Try.func44, Try.ntmps44
  go_wp2_with fail
  refine HN.out.mono ?_
  rintro e w1 ⟨rfl, hB1⟩
  have HB1 := Lib.hid hB1
  clear hB1 HN
  by_cases he : er = 0
  · subst he
    go_wp2_with fail
    refine (Try.strings_HasPrefix p ⟨#[71]⟩ w1).mono ?_
    rintro e w2 ⟨rfl, rfl⟩
    rw [show (⟨#[71]⟩ : ByteArray).data.toList = [71] from rfl]
    rcases Bool.eq_false_or_eq_true (Lib.hasPrefix p.data.toList [71]) with hp | hp
    · rw [if_neg (by rw [hp]; simp)] at HQ
      have hp1 : 1 ≤ p.size := by
        unfold Lib.hasPrefix at hp
        rw [List.isPrefixOf_iff_prefix] at hp
        have := hp.length_le
        simpa using this
      rw [hp]
      go_wp2_with fail
      refine (rnew (w0 := w) (p.extract 1 p.size) HB1.out).mono ?_
      rintro e w2 ⟨r, rfl, hR, hB, hb2, hr⟩
      have HR1 := Lib.hid hR
      have HB2 := Lib.hid hB
      clear hR hB hb2 hr HB1
      go_wp2_with fail
      refine (rnumber w _ r _ 0 18446744073709551615 (by decide) (by decide) HR1.out HB2.out).mono ?_
      rintro e w3 ⟨rfl, hR, hB, hk⟩
      generalize rdNum (p.extract 1 p.size) 0 18446744073709551615 = qq at *
      obtain ⟨k, t, ee⟩ := qq
      dsimp only at *
      have HR3 := Lib.hid hR
      have HB3 := Lib.hid hB
      clear hR hB hk HR1 HB2
      go_wp2_with fail
      refine (rend HR3.out HB3.out).mono ?_
      rintro e w4 ⟨rfl, hR, hB, hk⟩
      have HB4 := Lib.hid hB
      clear hR hB hk HR3 HB3
      generalize endE t ee = z at *
      go_wp2_with fail
      go_ret3
      exact ⟨by rw [hdV, ← HD.out, HQ.out]; rfl, HB4.out⟩
    · rw [if_pos (.inr hp)] at HQ
      rw [hp]
      go_wp2_with fail
      go_ret3
      exact ⟨by rw [hdV, ← HD.out, HQ.out]; rfl, HB1.out⟩
  · rw [if_pos (.inl he)] at HQ
    have c7 : (er == 0) = false := beq_eq_false_iff_ne.mpr he
    have c8 : (er != 0) = true := bne_iff_ne.mpr he
    go_wp2_with fail
    go_ret3
    exact ⟨by rw [hdV, ← HD.out, HQ.out]; rfl, HB1.out⟩
end Go.Proofs.Ytccdmedhkbabpaa
/- The program's read of a log: what it answers, as a plain word. Conditions: those that each theorem names. -/
namespace Go.Proofs.Ytccdmedhkbabpaa
open Go.RowKit Go.Proofs.YtccdmedhkbabpaaW.PrintWords

theorem info_str : (Try.prog.info? 9).map (fun i => (i.zero, i.size, i.bytes)) = some (some (.string ⟨#[]⟩), 1, 16) := by kernel_rfl
/-- What is read of a log from place i on, in k steps at most: are its first records ended, the records, where it ends. -/
def lscN : Nat → ByteArray → Bool → List ByteArray → Nat → Bool × List ByteArray × Nat
  | 0, _, d, l, i => (d, l, i)
  | k + 1, s, d, l, i =>
    if (nxt (s.extract i s.size)).2.2 ≠ 0 ∨ (nxt (s.extract i s.size)).1.size = 0 then (d, l, i)
    else if d = false ∧ (nxt (s.extract i s.size)).1 = eP then lscN k s true l (i + (nxt (s.extract i s.size)).2.1.toNat)
    else if bt (nxt (s.extract i s.size)).1 0 = (if d then 82 else 67) then lscN k s d (l ++ [(nxt (s.extract i s.size)).1.extract 1 (nxt (s.extract i s.size)).1.size]) (i + (nxt (s.extract i s.size)).2.1.toNat)
    else (d, l, i)
def lsc (s : ByteArray) (i : Nat) : Bool × List ByteArray × Nat := lscN (s.size + 1) s false [] i
/-- A log's generation, its records, its end; is it one? -/
def lrd (s : ByteArray) : Int × List ByteArray × Nat × Bool :=
  if (hdL s).2.2 = true ∧ (lsc s (hdL s).2.1.toNat).1 = true then ((hdL s).1, (lsc s (hdL s).2.1.toNat).2.1, (lsc s (hdL s).2.1.toNat).2.2, true) else (0, [], 0, false)
theorem row_ne' {W : World} {base n g : Nat} {e t : TypeId} {size : Nat} {v : Value} {xs : List Value} {cs : Array Value} {fr : Nat × Nat} (h : W.ownsRow base e size v n xs) (hb : W.heap[g]? = some (.cells cs t fr)) (ht : t ≠ e) : ∀ k, v.ownBlock = some k → k ≠ g := by
  intro k hk he
  subst he
  rcases h.2 with ⟨rfl, _⟩ | ⟨k', cap, cur, rfl, _, hh, _⟩
  · simp [Value.ownBlock] at hk
  · have : k' = k := by simpa [Value.ownBlock] using hk
    subst this
    rw [hh] at hb
    injection hb with hb
    injection hb with _ hb
    exact ht hb.symm
theorem nxt_fits {s p : ByteArray} {m : Int} (hV : nxt s = (p, m, 0)) : ∃ z : Nat, m = (z : Int) ∧ 6 ≤ z ∧ z ≤ s.size ∧ p.size ≤ 16384 := by
  obtain ⟨t, e1, e2, e3⟩ := nxt_inv s (by rw [hV])
  rw [hV] at e1 e2 e3
  dsimp only at e1 e2 e3
  have hes := encB_size (n := (p.size : Int)) (by omega)
  have hfs := frm_size p
  have hsz := congrArg ByteArray.size e1
  rw [ByteArray.size_append] at hsz
  exact ⟨(frm p).size, e3, by omega, by omega, e2⟩
theorem hd_fits {s : ByteArray} (h : (hdL s).2.2 = true) : ∃ z : Nat, (hdL s).2.1 = (z : Int) ∧ 6 ≤ z ∧ z ≤ s.size := by
  unfold hdL at *
  split at h
  · cases h
  · rename_i hn
    rw [if_neg hn]
    have h0 : (nxt s).2.2 = 0 := by
      by_cases h0 : (nxt s).2.2 = 0
      · exact h0
      · exact absurd (.inl h0) hn
    obtain ⟨z, h1, h2, h3, _⟩ := nxt_fits (s := s) (p := (nxt s).1) (m := (nxt s).2.1) (by rw [← h0])
    exact ⟨z, h1, h2, h3⟩
theorem lsc_stop {k i : Nat} {s p : ByteArray} {d : Bool} {l : List ByteArray} {m er : Int} (hV : nxt (s.extract i s.size) = (p, m, er)) (h : er ≠ 0 ∨ p.size = 0) : lscN (k + 1) s d l i = (d, l, i) := by
  unfold lscN
  rw [hV]
  exact if_pos h
theorem lsc_end {k i z : Nat} {s p : ByteArray} {l : List ByteArray} (hV : nxt (s.extract i s.size) = (p, (z : Int), 0)) (h1 : p = eP) : lscN (k + 1) s false l i = lscN k s true l (i + z) := by
  conv => lhs; unfold lscN
  rw [hV]
  dsimp only
  rw [if_neg (by rw [h1]; intro h; rcases h with h | h <;> exact absurd h (by decide)), if_pos ⟨rfl, h1⟩, Int.toNat_natCast]
theorem lsc_more {k i z : Nat} {s p : ByteArray} {d : Bool} {l : List ByteArray} (hV : nxt (s.extract i s.size) = (p, (z : Int), 0)) (h0 : p.size ≠ 0) (h1 : d = true ∨ p ≠ eP) (h2 : bt p 0 = (if d then 82 else 67)) : lscN (k + 1) s d l i = lscN k s d (l ++ [p.extract 1 p.size]) (i + z) := by
  conv => lhs; unfold lscN
  rw [hV]
  dsimp only
  rw [if_neg (by intro h; rcases h with h | h; exact h rfl; exact h0 h), if_neg (by rintro ⟨rfl, h⟩; rcases h1 with h1 | h1; cases h1; exact h1 h), if_pos h2, Int.toNat_natCast]
theorem lsc_other {k i z : Nat} {s p : ByteArray} {d : Bool} {l : List ByteArray} (hV : nxt (s.extract i s.size) = (p, (z : Int), 0)) (h0 : p.size ≠ 0) (h1 : d = true ∨ p ≠ eP) (h2 : bt p 0 ≠ (if d then 82 else 67)) : lscN (k + 1) s d l i = (d, l, i) := by
  conv => lhs; unfold lscN
  rw [hV]
  dsimp only
  rw [if_neg (by intro h; rcases h with h | h; exact h rfl; exact h0 h), if_neg (by rintro ⟨rfl, h⟩; rcases h1 with h1 | h1; cases h1; exact h1 h), if_neg h2]
/-- What read answers and leaves. -/
def LRead (s : ByteArray) (w : World) (e : Ending) (w' : World) : Prop := ∃ (gen : Int) (v : Value) (en : Int), e = .returned (.tuple #[.agg #[.int .u64 gen, v, .int .i64 en], .bool (lrd s).2.2.2]) ∧
  ((lrd s).2.2.2 = true → gen = (lrd s).1 ∧ en = ((lrd s).2.2.1 : Int)) ∧ ((lrd s).2.2.2 = true → Kd.R Kd.string 9 w' w.heap.size (fun _ => True) v (lrd s).2.1) ∧ (∃ A n c, v = .slice A n c) ∧ Below w.heap.size w w'
/-- The two variables of read: its result's, and h. -/
structure LrB (w : World) (gen : Int) (rb hb : Nat) (l : List ByteArray) (v : Value) (W : World) : Prop where
  r : W.heap[rb]? = some (.cells #[.int .u64 0, .slice none 0 0, .int .i64 0] 71 (0, 0))
  h : W.heap[hb]? = some (.cells #[.int .u64 gen, v, .int .i64 0] 71 (0, 0))
  ne : rb ≠ hb
  gr : w.heap.size ≤ rb
  gh : w.heap.size ≤ hb
  R : Kd.R Kd.string 9 W w.heap.size (fun _ => True) v l
  b : Below w.heap.size w W
theorem LrB.below {w W W1 : World} {gen : Int} {rb hb : Nat} {l : List ByteArray} {v : Value} (h : LrB w gen rb hb l v W) (hb1 : Below W.heap.size W W1) : LrB w gen rb hb l v W1 :=
  ⟨(hb1.block _ (lt_of_at h.r)).trans h.r, (hb1.block _ (lt_of_at h.h)).trans h.h, h.ne, h.gr, h.gh, Kd.R_below h.R hb1, below_then h.b h.b.size hb1⟩
theorem LrB.own {w W : World} {gen : Int} {rb hb : Nat} {l : List ByteArray} {v : Value} (h : LrB w gen rb hb l v W) : ∀ k, v.ownBlock = some k → k ≠ rb ∧ k ≠ hb := by
  obtain ⟨_, cs, ho, _⟩ := h.R
  exact fun k hk => ⟨row_ne' ho h.r (by decide) k hk, row_ne' ho h.h (by decide) k hk⟩
/-- A record more. -/
theorem LrB.more {w W W1 : World} {gen : Int} {rb hb : Nat} {l : List ByteArray} {v v1 : Value} {x : ByteArray} (h : LrB w gen rb hb l v W) (hg : W.grownBy W1 v.ownBlock) (hR : Kd.R Kd.string 9 W1 w.heap.size (fun _ => True) v1 (l ++ [x])) (hB : Below w.heap.size w W1) : LrB w gen rb hb (l ++ [x]) v1 (W1.setCell ⟨hb, 1, none⟩ v1) := by
  have h1 : W1.heap[hb]? = some (.cells #[.int .u64 gen, v, .int .i64 0] 71 (0, 0)) := (hg.block hb (lt_of_at h.h) (fun e => (h.own hb e.symm).2 rfl)).trans h.h
  have h2 : W1.heap[rb]? = some (.cells #[.int .u64 0, .slice none 0 0, .int .i64 0] 71 (0, 0)) := (hg.block rb (lt_of_at h.r) (fun e => (h.own rb e.symm).1 rfl)).trans h.r
  obtain ⟨a1, cs, ho, a3⟩ := hR
  have hm : ∀ k, k ≠ hb → (W1.setCell ⟨hb, 1, none⟩ v1).heap[k]? = W1.heap[k]? := fun k hk => Below.heap_setCell W1 ⟨hb, 1, none⟩ v1 k hk
  refine ⟨(hm rb h.ne).trans h2, ?_, h.ne, h.gr, h.gh, ⟨a1, cs, own_move ho (fun k hk => hm k (row_ne' ho h1 (by decide) k hk)), a3⟩, hB.setCell h.gh _⟩
  simp only [World.setCell, Array.getElem?_modify, h1]
  simp
/-- What holds at the labels: next (0), out (1). -/
def LrJ (s : ByteArray) (w : World) (gen : Int) (at0 : Nat) (n lb : Nat) (a : Act) (w' : World) : Prop :=
  (lb = 0 ∧ ∃ (i k : Nat) (d : Bool) (l : List ByteArray) (v : Value) (rb hb : Nat) (u : Nat → Value), a = { tmps := #[.string s, u 1, .pointer (some ⟨rb, 0, none⟩), .bool false, u 4, .int .i64 (i : Int), u 6, .pointer (some ⟨hb, 0, none⟩), .bool d, u 9, u 10, u 11, u 12, u 13, u 14, u 15, u 16, u 17, u 18, u 19, u 20, u 21, u 22, u 23, u 24, u 25, u 26, u 27, u 28, u 29, u 30, u 31, u 32, u 33, u 34, u 35, u 36, u 37, u 38, u 39, u 40, u 41, u 42, u 43, u 44, u 45, u 46, u 47, u 48, u 49, u 50, u 51, u 52, u 53, u 54, u 55, u 56, u 57, u 58, u 59, u 60, u 61, u 62, u 63, u 64, u 65, u 66, u 67, u 68, u 69, u 70, u 71, u 72], defers := [] } ∧ LrB w gen rb hb l v w' ∧ i ≤ s.size ∧ l.length ≤ i ∧ n = s.size - i + 1 ∧ s.size - i < k ∧ lscN k s d l i = lsc s at0) ∨
  (lb = 1 ∧ n = 0 ∧ ∃ (i : Nat) (d : Bool) (l : List ByteArray) (v : Value) (rb hb : Nat) (u : Nat → Value), a = { tmps := #[.string s, u 1, .pointer (some ⟨rb, 0, none⟩), .bool false, u 4, .int .i64 (i : Int), u 6, .pointer (some ⟨hb, 0, none⟩), .bool d, u 9, u 10, u 11, u 12, u 13, u 14, u 15, u 16, u 17, u 18, u 19, u 20, u 21, u 22, u 23, u 24, u 25, u 26, u 27, u 28, u 29, u 30, u 31, u 32, u 33, u 34, u 35, u 36, u 37, u 38, u 39, u 40, u 41, u 42, u 43, u 44, u 45, u 46, u 47, u 48, u 49, u 50, u 51, u 52, u 53, u 54, u 55, u 56, u 57, u 58, u 59, u 60, u 61, u 62, u 63, u 64, u 65, u 66, u 67, u 68, u 69, u 70, u 71, u 72], defers := [] } ∧ LrB w gen rb hb l v w' ∧ i ≤ s.size ∧ lsc s at0 = (d, l, i))
theorem LrJ.next {s : ByteArray} {w w' : World} {gen : Int} {at0 i rb hb : Nat} {d : Bool} {v u1 u4 u6 u9 u10 u11 u12 u13 u14 u15 u16 u17 u18 u19 u20 u21 u22 u23 u24 u25 u26 u27 u28 u29 u30 u31 u32 u33 u34 u35 u36 u37 u38 u39 u40 u41 u42 u43 u44 u45 u46 u47 u48 u49 u50 u51 u52 u53 u54 u55 u56 u57 u58 u59 u60 u61 u62 u63 u64 u65 u66 u67 u68 u69 u70 u71 u72 : Value} (k : Nat) (l : List ByteArray) (hB : LrB w gen rb hb l v w') (hi : i ≤ s.size) (hl : l.length ≤ i) (hk : s.size - i < k) (hs : lscN k s d l i = lsc s at0) :
    LrJ s w gen at0 (s.size - i + 1) 0 { tmps := #[.string s, u1, .pointer (some ⟨rb, 0, none⟩), .bool false, u4, .int .i64 (i : Int), u6, .pointer (some ⟨hb, 0, none⟩), .bool d, u9, u10, u11, u12, u13, u14, u15, u16, u17, u18, u19, u20, u21, u22, u23, u24, u25, u26, u27, u28, u29, u30, u31, u32, u33, u34, u35, u36, u37, u38, u39, u40, u41, u42, u43, u44, u45, u46, u47, u48, u49, u50, u51, u52, u53, u54, u55, u56, u57, u58, u59, u60, u61, u62, u63, u64, u65, u66, u67, u68, u69, u70, u71, u72], defers := [] } w' :=
  .inl ⟨rfl, i, k, d, l, v, rb, hb, fun j => (#[undef, u1, undef, undef, u4, undef, u6, undef, undef, u9, u10, u11, u12, u13, u14, u15, u16, u17, u18, u19, u20, u21, u22, u23, u24, u25, u26, u27, u28, u29, u30, u31, u32, u33, u34, u35, u36, u37, u38, u39, u40, u41, u42, u43, u44, u45, u46, u47, u48, u49, u50, u51, u52, u53, u54, u55, u56, u57, u58, u59, u60, u61, u62, u63, u64, u65, u66, u67, u68, u69, u70, u71, u72] : Array Value).getD j undef, rfl, hB, hi, hl, rfl, hk, hs⟩
theorem LrJ.out {s : ByteArray} {w w' : World} {gen : Int} {at0 i rb hb : Nat} {d : Bool} {v u1 u4 u6 u9 u10 u11 u12 u13 u14 u15 u16 u17 u18 u19 u20 u21 u22 u23 u24 u25 u26 u27 u28 u29 u30 u31 u32 u33 u34 u35 u36 u37 u38 u39 u40 u41 u42 u43 u44 u45 u46 u47 u48 u49 u50 u51 u52 u53 u54 u55 u56 u57 u58 u59 u60 u61 u62 u63 u64 u65 u66 u67 u68 u69 u70 u71 u72 : Value} (l : List ByteArray) (hB : LrB w gen rb hb l v w') (hi : i ≤ s.size) (hs : lsc s at0 = (d, l, i)) :
    LrJ s w gen at0 0 1 { tmps := #[.string s, u1, .pointer (some ⟨rb, 0, none⟩), .bool false, u4, .int .i64 (i : Int), u6, .pointer (some ⟨hb, 0, none⟩), .bool d, u9, u10, u11, u12, u13, u14, u15, u16, u17, u18, u19, u20, u21, u22, u23, u24, u25, u26, u27, u28, u29, u30, u31, u32, u33, u34, u35, u36, u37, u38, u39, u40, u41, u42, u43, u44, u45, u46, u47, u48, u49, u50, u51, u52, u53, u54, u55, u56, u57, u58, u59, u60, u61, u62, u63, u64, u65, u66, u67, u68, u69, u70, u71, u72], defers := [] } w' :=
  .inr ⟨rfl, rfl, i, d, l, v, rb, hb, fun j => (#[undef, u1, undef, undef, u4, undef, u6, undef, undef, u9, u10, u11, u12, u13, u14, u15, u16, u17, u18, u19, u20, u21, u22, u23, u24, u25, u26, u27, u28, u29, u30, u31, u32, u33, u34, u35, u36, u37, u38, u39, u40, u41, u42, u43, u44, u45, u46, u47, u48, u49, u50, u51, u52, u53, u54, u55, u56, u57, u58, u59, u60, u61, u62, u63, u64, u65, u66, u67, u68, u69, u70, u71, u72] : Array Value).getD j undef, rfl, hB, hi, hs⟩
set_option maxRecDepth 100000 in
set_option maxHeartbeats 16000000 in
theorem lread_calls (s : ByteArray) (hs : s.size ≤ 1048576) (w : World) : Calls Try.prog 27 #[.string s] w (LRead s w) := by
  obtain ⟨h, hh⟩ : ∃ h, h = hdL s := ⟨_, rfl⟩
  have HH := Lib.hid hh
  have HC := Lib.hid (head_calls s (by omega) (w.alloc (.cells #[.int .u64 0, .slice none 0 0, .int .i64 0] 71)))
  rw [hdV, ← hh] at HC
  clear hh
  obtain ⟨gen, at0, ok⟩ := h
  dsimp only at HC
  cases ok with
  | false =>
    go_enter Try.func27, Try.ntmps27
    go_wp2_with fail
    refine wp_scope_many (fun _ _ _ _ => False) ?_ (fun _ _ _ _ h => h.elim)
    go_wp2_with fail
    refine HC.out.mono ?_
    rintro e w1 ⟨rfl, hB1⟩
    have hX1 := (hB1.block w.heap.size (by simp)).trans (heap_alloc_new w _)
    have HX1 := Lib.hid hX1
    have hlt := lt_of_at hX1
    have HB1 : Hid (Below w.heap.size w w1) := Lib.hid (below_then (below_alloc (Below.refl w.heap.size w) (.cells #[.int .u64 0, .slice none 0 0, .int .i64 0] 71)) (by simp) hB1)
    have d0 : w1.cell? ⟨w.heap.size, 0, none⟩ = some (.int .u64 0) := (blk_cell hX1 0).trans rfl
    have d1 : w1.cell? ⟨w.heap.size, 1, none⟩ = some (.slice none 0 0) := (blk_cell hX1 1).trans rfl
    have d2 : w1.cell? ⟨w.heap.size, 2, none⟩ = some (.int .i64 0) := (blk_cell hX1 2).trans rfl
    have e0 := blk_frozen hX1 0
    have e1 := blk_frozen hX1 1
    have e2 := blk_frozen hX1 2
    have HLR : Hid ((lrd s).2.2.2 = false) := Lib.hid (by unfold lrd; rw [← HH.out]; rfl)
    clear hB1 HC hX1
    go_wp2_with fail
    refine bodyPost_ret (results_ct rfl _ _ w.heap.size 71 #[.int .u64 0, .slice none 0 0, .int .i64 0] (0, 0) _ rfl ?_ Try.underlying71 rfl (by kernel_rfl)) rfl ?_
    · refine blk_alloc ?_ _
      refine blk_put (cs := #[.int .u64 0, .slice none 0 0, .int .i64 0]) ?_ 2 _ rfl
      refine blk_put (cs := #[.int .u64 0, .slice none 0 0, .int .i64 0]) ?_ 1 _ rfl
      refine blk_put (cs := #[.int .u64 0, .slice none 0 0, .int .i64 0]) ?_ 0 _ rfl
      exact HX1.out
    · refine ⟨0, .slice none 0 0, 0, ?_, ?_, ?_, ?_, ?_⟩
      · rw [HLR.out]; rfl
      · rw [HLR.out]; intro h; cases h
      · rw [HLR.out]; intro h; cases h
      · exact ⟨_, _, _, rfl⟩
      · exact below_alloc' (((HB1.out.setCell (Nat.le_refl _) _).setCell (Nat.le_refl _) _).setCell (Nat.le_refl _) _) _
  | true =>
    obtain ⟨q, hi0, hi6, hq⟩ := hd_fits (s := s) (by rw [← HH.out])
    rw [← HH.out] at hi0
    dsimp only at hi0
    subst hi0
    have HH1 : Hid (∀ d l i, lsc s q = (d, l, i) → lrd s = if d = true then (gen, l, i, true) else (0, [], 0, false)) := Lib.hid (by intro d l i h; unfold lrd; rw [← HH.out]; dsimp only; rw [Int.toNat_natCast, h]; simp)
    go_enter Try.func27, Try.ntmps27
    go_wp2_with fail
    refine wp_scope_many (LrJ s w gen q) ?first ?pass
    case first =>
      go_wp2_with fail
      refine HC.out.mono ?_
      rintro e w1 ⟨rfl, hB1⟩
      have hX1 := (hB1.block w.heap.size (by simp)).trans (heap_alloc_new w _)
      have hlt := lt_of_at hX1
      have HB1 : Hid (Below w.heap.size w w1) := Lib.hid (below_then (below_alloc (Below.refl w.heap.size w) (.cells #[.int .u64 0, .slice none 0 0, .int .i64 0] 71)) (by simp) hB1)
      have hi : q ≤ s.size := hq
      obtain ⟨l, hl0⟩ : ∃ l : List ByteArray, l = [] := ⟨_, rfl⟩
      obtain ⟨v, hv0⟩ : ∃ v : Value, v = .slice none 0 0 := ⟨_, rfl⟩
      obtain ⟨rb, hrb⟩ : ∃ rb, rb = w.heap.size := ⟨_, rfl⟩
      obtain ⟨hb, hhb⟩ : ∃ hb, hb = w1.heap.size := ⟨_, rfl⟩
      have HLB : Hid (LrB w gen rb hb l v (w1.alloc (.cells #[.int .u64 gen, .slice none 0 0, .int .i64 0] 71))) := Lib.hid (by
        subst hl0 hv0 hrb hhb
        exact ⟨(((below_alloc (Below.refl w1.heap.size w1) _).block w.heap.size hlt)).trans hX1, heap_alloc_new _ _, by omega, Nat.le_refl _, HB1.out.size, Kd.R_nil _ _ _ _ _, below_alloc' HB1.out _⟩)
      have HSC : Hid (lscN (s.size + 1) s false l q = lsc s q) := Lib.hid (by rw [hl0]; rfl)
      have HK : Hid (s.size - q < s.size + 1) := Lib.hid (by omega)
      have hl : l.length + 1 ≤ q + 1 := by rw [hl0]; exact Nat.succ_le_succ (Nat.zero_le _)
      have HRB := Lib.hid hrb
      have HHB := Lib.hid hhb
      obtain ⟨wa, hwa⟩ : ∃ wa, wa = w1.alloc (.cells #[.int .u64 gen, .slice none 0 0, .int .i64 0] 71) := ⟨_, rfl⟩
      rw [← hwa] at HLB
      have HWA := Lib.hid hwa
      clear hl0 hv0 hrb hhb hwa
      clear hB1 HC hX1 hi6 HB1
      go_wp2_with fail
      refine wp_label ?_
      rw [← HWA.out, ← HHB.out, ← HRB.out]
      clear HWA HHB HRB
      have b0 : (0 : Int) ≤ (q : Int) := by omega
      have b1 : (q : Int) ≤ (s.size : Int) := by omega
      go_wp2_with fail
      obtain ⟨S, hS⟩ : ∃ S, S = s.extract q s.size := ⟨_, rfl⟩
      have hSz : S.size ≤ 281474976710656 := by rw [hS, ByteArray.size_extract]; omega
      have hSs : S.size = s.size - q := by rw [hS, ByteArray.size_extract]; omega
      rw [← hS]
      refine (next_calls S hSz _).mono ?_
      rintro e w2 ⟨rfl, hB2⟩
      have HLB2 := Lib.hid (HLB.out.below hB2)
      clear hB2 HLB hSz
      rw [nxtV]
      have HV0 : Hid (nxt (s.extract q s.size) = nxt S) := Lib.hid (by rw [hS])
      clear hS
      generalize hVt : nxt S = Vt at *
      obtain ⟨p, m, er⟩ := Vt
      have HV : Hid (nxt S = (p, m, er)) := Lib.hid hVt
      clear hVt
      dsimp only
      rcases (show er ≠ 0 ∨ er = 0 by omega) with he | he
      · have c1 : (er == 0) = false := beq_eq_false_iff_ne.mpr he
        have c2 : (er != 0) = true := bne_iff_ne.mpr he
        have HE : Hid (lsc s q = (false, l, q)) := Lib.hid (by rw [← HSC.out]; exact lsc_stop HV0.out (.inl he))
        go_wp2
        go_step3
        exact ⟨_, LrJ.out l HLB2.out hi HE.out⟩
      · subst he
        have hlen : p.toList.length = p.size := by rw [ByteArray.toList_eq, data_length]
        rcases (show p.size = 0 ∨ 1 ≤ p.size by omega) with hp0 | hp0
        · have HE : Hid (lsc s q = (false, l, q)) := Lib.hid (by rw [← HSC.out]; exact lsc_stop HV0.out (.inr hp0))
          have hps : p.toList = [] := List.eq_nil_of_length_eq_zero (hlen.trans hp0)
          clear hp0 hlen
          go_wp2
          go_step3
          exact ⟨_, LrJ.out l HLB2.out hi HE.out⟩
        · obtain ⟨z, rfl, hz6, hzS, hp16⟩ := nxt_fits HV.out
          have hps : p.toList.isEmpty = false := by
            cases hc : p.toList with
            | nil => rw [hc] at hlen; simp at hlen; omega
            | cons a t => rfl
          have hx5 : ∀ h : 0 < p.size, ((p[0]'h).toNat : Int) = bt p 0 := bt_at p 0
          have hpp : (0 : Int) < p.size := by omega
          obtain ⟨hr0, hr1⟩ := bt_range p 0
          have HPN : Hid (p.size ≠ 0) := Lib.hid (by omega)
          obtain ⟨j, hj⟩ : ∃ j, j = q + z := ⟨_, rfl⟩
          have hw0 : (q : Int) + (z : Int) = (j : Int) := by omega
          have hj0 : (0 : Int) ≤ (j : Int) := by omega
          have hj1 : (j : Int) ≤ 1048576 := by omega
          have HJ : Hid (j ≤ s.size ∧ l.length + 1 ≤ j ∧ s.size - j < s.size) := Lib.hid (by have := HK.out; omega)
          have HLTN : Hid (s.size - j < s.size - q) := Lib.hid (by omega)
          have hl16 : (l.length + 1) * 16 ≤ 140737488355328 := by omega
          have HIJ := Lib.hid hj
          obtain ⟨b, hbt⟩ : ∃ b, b = bt p 0 := ⟨_, rfl⟩
          rw [← hbt] at hx5 hr0 hr1
          have HBT := Lib.hid hbt
          clear hlen hj hbt hzS hz6 hp0
          by_cases hE : p = eP
          · have c69 : (p.toList == [69]) = true := by rw [hE, ByteArray.toList_eq]; rfl
            have HSC2 : Hid (lscN s.size s true l j = lsc s q) := Lib.hid (by rw [← HSC.out, HIJ.out]; exact (lsc_end HV0.out hE).symm)
            clear hE
            go_wp2
            go_step3
            exact ⟨_, LrJ.next s.size l HLB2.out HJ.out.1 (by have := HJ.out; omega) HJ.out.2.2 HSC2.out⟩
          · have c69 : (p.toList == [69]) = false := by
              rw [beq_eq_false_iff_ne]
              intro h
              apply hE
              have h2 : p.data.toList = [69] := by rw [← ByteArray.toList_eq]; exact h
              have h3 : p.data = #[69] := Array.toList_inj.1 h2
              cases p; simp_all [eP]
            have HE1 : Hid (False ∨ p ≠ eP) := Lib.hid (.inr hE)
            clear hE
            by_cases hb2 : b = 67
            · have cb : (b == 67) = true := by rw [hb2]; rfl
              have HSC2 : Hid (lscN s.size s false (l ++ [p.extract 1 p.size]) j = lsc s q) := Lib.hid (by rw [← HSC.out, HIJ.out]; exact (lsc_more HV0.out HPN.out (HE1.out.elim (fun h => h.elim) .inr) (by rw [← HBT.out, hb2]; rfl)).symm)
              have hp1 : (1 : Int) ≤ p.size := by omega
              have ch : w2.cell? ⟨hb, 1, none⟩ = some v := (blk_cell HLB2.out.h 1).trans rfl
              have fh := blk_frozen HLB2.out.h 1
              have hblt : hb < w2.heap.size := lt_of_at HLB2.out.h
              have hbne := World.new_ne w2 ⟨hb, 1, none⟩ ch
              have HRD : Hid (Kd.R Kd.string 9 w2.drew w.heap.size (fun _ => True) v l) := Lib.hid (Kd.R_drew HLB2.out.R)
              have HBD : Hid (Below w.heap.size w w2.drew) := Lib.hid (below_drew1 HLB2.out.b)
              have HHK : Hid (∀ w3, w2.drew.grownBy w3 v.ownBlock → w3.heap[hb]? = some (.cells #[.int .u64 gen, v, .int .i64 0] 71 (0, 0))) := Lib.hid (fun w3 hg => (hg.block hb (lt_of_at HLB2.out.h) (fun e => (HLB2.out.own hb e.symm).2 rfl)).trans HLB2.out.h)
              have HEX : Hid (p.extract 1 p.size = p.extract 1 p.size) := rfl
              clear hb2
              obtain ⟨x, hx⟩ : ∃ x, x = p.extract 1 p.size := ⟨_, rfl⟩
              rw [← hx] at HSC2
              have HX := Lib.hid hx
              clear hx
              go_wp2_with fail
              go_region_law ((refine Kd.R_append_step Kd.string (w0 := w) w.heap.size (by rfl) (.tmp 60) (.tmp 63) 30 9 (.string ⟨#[]⟩) 16 (by rfl) Try.underlying30 info_str (by rfl) (by decide) (by omega) v l (p.extract 1 p.size) [.string (p.extract 1 p.size)] (fun _ => True) (fun _ => False) (by rfl) (by rfl) (by exact rfl) (fun _ hk => hk.elim) (fun _ _ => trivial) HRD.out HBD.out HBD.out.size hl16 ?_; intro v1 w3 hR3 hB3 hgr3 hat3; obtain ⟨A1, c1, rfl⟩ := Kd.R_slice hR3; have ch3 := (blk_cell (HHK.out w3 hgr3) 1).trans rfl; have fh3 := blk_frozen (HHK.out w3 hgr3) 1))
              all_goals (
                have HLB3 : Hid (LrB w gen rb hb (l ++ [x]) (.slice A1 (l.length + 1) c1) (w3.setCell ⟨hb, 1, none⟩ (.slice A1 (l.length + 1) c1))) := Lib.hid (by
                  rw [List.length_append] at hR3
                  rw [HX.out]
                  exact (HLB2.out.below (below_drew (Below.refl _ _))).more hgr3 hR3 hB3)
                have HLL : Hid ((l ++ [x]).length ≤ j) := Lib.hid (by rw [List.length_append]; exact HJ.out.2.1)
                clear hR3 hB3 hgr3 hat3 ch3 fh3 ch fh hbne
                go_wp2
                go_step3
                exact ⟨_, LrJ.next s.size (l ++ [x]) HLB3.out HJ.out.1 HLL.out HJ.out.2.2 HSC2.out⟩)
            · have cb : (b == 67) = false := beq_eq_false_iff_ne.mpr hb2
              have HE : Hid (lsc s q = (false, l, q)) := Lib.hid (by rw [← HSC.out]; exact lsc_other HV0.out HPN.out (HE1.out.elim (fun h => h.elim) .inr) (by rw [← HBT.out]; exact hb2))
              go_wp2
              go_step3
              exact ⟨_, LrJ.out l HLB2.out hi HE.out⟩
    case pass =>
      clear hi6 HC
      rintro n lb a w' (⟨rfl, i, k, d, l, v, rb, hb, u, rfl, hLB, hi, hl, hn, hk, hsc⟩ | ⟨rfl, hn, i, d, l, v, rb, hb, u, rfl, hLB, hi, hsc⟩)
      · refine ⟨_, rfl, ?_⟩
        obtain ⟨k', rfl⟩ : ∃ k', k = k' + 1 := ⟨k - 1, by omega⟩
        have HLB := Lib.hid hLB
        have HN := Lib.hid hn
        have HK := Lib.hid hk
        have HSC := Lib.hid hsc
        clear hLB hn hk hsc
        cases d with
        | false =>
          have b0 : (0 : Int) ≤ (i : Int) := by omega
          have b1 : (i : Int) ≤ (s.size : Int) := by omega
          go_wp2_with fail
          obtain ⟨S, hS⟩ : ∃ S, S = s.extract i s.size := ⟨_, rfl⟩
          have hSz : S.size ≤ 281474976710656 := by rw [hS, ByteArray.size_extract]; omega
          have hSs : S.size = s.size - i := by rw [hS, ByteArray.size_extract]; omega
          rw [← hS]
          refine (next_calls S hSz _).mono ?_
          rintro e w2 ⟨rfl, hB2⟩
          have HLB2 := Lib.hid (HLB.out.below hB2)
          clear hB2 HLB hSz
          rw [nxtV]
          have HV0 : Hid (nxt (s.extract i s.size) = nxt S) := Lib.hid (by rw [hS])
          clear hS
          generalize hVt : nxt S = Vt at *
          obtain ⟨p, m, er⟩ := Vt
          have HV : Hid (nxt S = (p, m, er)) := Lib.hid hVt
          clear hVt
          dsimp only
          rcases (show er ≠ 0 ∨ er = 0 by omega) with he | he
          · have c1 : (er == 0) = false := beq_eq_false_iff_ne.mpr he
            have c2 : (er != 0) = true := bne_iff_ne.mpr he
            have HE : Hid (lsc s q = (false, l, i)) := Lib.hid (by rw [← HSC.out]; exact lsc_stop HV0.out (.inl he))
            go_wp2
            go_step3
            exact ⟨_, by rw [HN.out]; omega, LrJ.out l HLB2.out hi HE.out⟩
          · subst he
            have hlen : p.toList.length = p.size := by rw [ByteArray.toList_eq, data_length]
            rcases (show p.size = 0 ∨ 1 ≤ p.size by omega) with hp0 | hp0
            · have HE : Hid (lsc s q = (false, l, i)) := Lib.hid (by rw [← HSC.out]; exact lsc_stop HV0.out (.inr hp0))
              have hps : p.toList = [] := List.eq_nil_of_length_eq_zero (hlen.trans hp0)
              clear hp0 hlen
              go_wp2
              go_step3
              exact ⟨_, by rw [HN.out]; omega, LrJ.out l HLB2.out hi HE.out⟩
            · obtain ⟨z, rfl, hz6, hzS, hp16⟩ := nxt_fits HV.out
              have hps : p.toList.isEmpty = false := by
                cases hc : p.toList with
                | nil => rw [hc] at hlen; simp at hlen; omega
                | cons a t => rfl
              have hx5 : ∀ h : 0 < p.size, ((p[0]'h).toNat : Int) = bt p 0 := bt_at p 0
              have hpp : (0 : Int) < p.size := by omega
              obtain ⟨hr0, hr1⟩ := bt_range p 0
              have HPN : Hid (p.size ≠ 0) := Lib.hid (by omega)
              obtain ⟨j, hj⟩ : ∃ j, j = i + z := ⟨_, rfl⟩
              have hw0 : (i : Int) + (z : Int) = (j : Int) := by omega
              have hj0 : (0 : Int) ≤ (j : Int) := by omega
              have hj1 : (j : Int) ≤ 1048576 := by omega
              have HJ : Hid (j ≤ s.size ∧ l.length + 1 ≤ j ∧ s.size - j < k') := Lib.hid (by have := HK.out; omega)
              have HLTN : Hid (s.size - j < s.size - i) := Lib.hid (by omega)
              have hl16 : (l.length + 1) * 16 ≤ 140737488355328 := by omega
              have HIJ := Lib.hid hj
              obtain ⟨b, hbt⟩ : ∃ b, b = bt p 0 := ⟨_, rfl⟩
              rw [← hbt] at hx5 hr0 hr1
              have HBT := Lib.hid hbt
              clear hlen hj hbt hzS hz6 hp0
              by_cases hE : p = eP
              · have c69 : (p.toList == [69]) = true := by rw [hE, ByteArray.toList_eq]; rfl
                have HSC2 : Hid (lscN k' s true l j = lsc s q) := Lib.hid (by rw [← HSC.out, HIJ.out]; exact (lsc_end HV0.out hE).symm)
                clear hE
                go_wp2
                go_step3
                exact ⟨_, by rw [HN.out]; have := HLTN.out; omega, LrJ.next k' l HLB2.out HJ.out.1 (by have := HJ.out; omega) HJ.out.2.2 HSC2.out⟩
              · have c69 : (p.toList == [69]) = false := by
                  rw [beq_eq_false_iff_ne]
                  intro h
                  apply hE
                  have h2 : p.data.toList = [69] := by rw [← ByteArray.toList_eq]; exact h
                  have h3 : p.data = #[69] := Array.toList_inj.1 h2
                  cases p; simp_all [eP]
                have HE1 : Hid (False ∨ p ≠ eP) := Lib.hid (.inr hE)
                clear hE
                by_cases hb2 : b = 67
                · have cb : (b == 67) = true := by rw [hb2]; rfl
                  have HSC2 : Hid (lscN k' s false (l ++ [p.extract 1 p.size]) j = lsc s q) := Lib.hid (by rw [← HSC.out, HIJ.out]; exact (lsc_more HV0.out HPN.out (HE1.out.elim (fun h => h.elim) .inr) (by rw [← HBT.out, hb2]; rfl)).symm)
                  have hp1 : (1 : Int) ≤ p.size := by omega
                  have ch : w2.cell? ⟨hb, 1, none⟩ = some v := (blk_cell HLB2.out.h 1).trans rfl
                  have fh := blk_frozen HLB2.out.h 1
                  have hblt : hb < w2.heap.size := lt_of_at HLB2.out.h
                  have hbne := World.new_ne w2 ⟨hb, 1, none⟩ ch
                  have HRD : Hid (Kd.R Kd.string 9 w2.drew w.heap.size (fun _ => True) v l) := Lib.hid (Kd.R_drew HLB2.out.R)
                  have HBD : Hid (Below w.heap.size w w2.drew) := Lib.hid (below_drew1 HLB2.out.b)
                  have HHK : Hid (∀ w3, w2.drew.grownBy w3 v.ownBlock → w3.heap[hb]? = some (.cells #[.int .u64 gen, v, .int .i64 0] 71 (0, 0))) := Lib.hid (fun w3 hg => (hg.block hb (lt_of_at HLB2.out.h) (fun e => (HLB2.out.own hb e.symm).2 rfl)).trans HLB2.out.h)
                  have HEX : Hid (p.extract 1 p.size = p.extract 1 p.size) := rfl
                  clear hb2
                  obtain ⟨x, hx⟩ : ∃ x, x = p.extract 1 p.size := ⟨_, rfl⟩
                  rw [← hx] at HSC2
                  have HX := Lib.hid hx
                  clear hx
                  go_wp2_with fail
                  go_region_law ((refine Kd.R_append_step Kd.string (w0 := w) w.heap.size (by rfl) (.tmp 60) (.tmp 63) 30 9 (.string ⟨#[]⟩) 16 (by rfl) Try.underlying30 info_str (by rfl) (by decide) (by omega) v l (p.extract 1 p.size) [.string (p.extract 1 p.size)] (fun _ => True) (fun _ => False) (by rfl) (by rfl) (by exact rfl) (fun _ hk => hk.elim) (fun _ _ => trivial) HRD.out HBD.out HBD.out.size hl16 ?_; intro v1 w3 hR3 hB3 hgr3 hat3; obtain ⟨A1, c1, rfl⟩ := Kd.R_slice hR3; have ch3 := (blk_cell (HHK.out w3 hgr3) 1).trans rfl; have fh3 := blk_frozen (HHK.out w3 hgr3) 1))
                  all_goals (
                    have HLB3 : Hid (LrB w gen rb hb (l ++ [x]) (.slice A1 (l.length + 1) c1) (w3.setCell ⟨hb, 1, none⟩ (.slice A1 (l.length + 1) c1))) := Lib.hid (by
                      rw [List.length_append] at hR3
                      rw [HX.out]
                      exact (HLB2.out.below (below_drew (Below.refl _ _))).more hgr3 hR3 hB3)
                    have HLL : Hid ((l ++ [x]).length ≤ j) := Lib.hid (by rw [List.length_append]; exact HJ.out.2.1)
                    clear hR3 hB3 hgr3 hat3 ch3 fh3 ch fh hbne
                    go_wp2
                    go_step3
                    exact ⟨_, by rw [HN.out]; have := HLTN.out; omega, LrJ.next k' (l ++ [x]) HLB3.out HJ.out.1 HLL.out HJ.out.2.2 HSC2.out⟩)
                · have cb : (b == 67) = false := beq_eq_false_iff_ne.mpr hb2
                  have HE : Hid (lsc s q = (false, l, i)) := Lib.hid (by rw [← HSC.out]; exact lsc_other HV0.out HPN.out (HE1.out.elim (fun h => h.elim) .inr) (by rw [← HBT.out]; exact hb2))
                  go_wp2
                  go_step3
                  exact ⟨_, by rw [HN.out]; omega, LrJ.out l HLB2.out hi HE.out⟩
        | true =>
          have b0 : (0 : Int) ≤ (i : Int) := by omega
          have b1 : (i : Int) ≤ (s.size : Int) := by omega
          go_wp2_with fail
          obtain ⟨S, hS⟩ : ∃ S, S = s.extract i s.size := ⟨_, rfl⟩
          have hSz : S.size ≤ 281474976710656 := by rw [hS, ByteArray.size_extract]; omega
          have hSs : S.size = s.size - i := by rw [hS, ByteArray.size_extract]; omega
          rw [← hS]
          refine (next_calls S hSz _).mono ?_
          rintro e w2 ⟨rfl, hB2⟩
          have HLB2 := Lib.hid (HLB.out.below hB2)
          clear hB2 HLB hSz
          rw [nxtV]
          have HV0 : Hid (nxt (s.extract i s.size) = nxt S) := Lib.hid (by rw [hS])
          clear hS
          generalize hVt : nxt S = Vt at *
          obtain ⟨p, m, er⟩ := Vt
          have HV : Hid (nxt S = (p, m, er)) := Lib.hid hVt
          clear hVt
          dsimp only
          rcases (show er ≠ 0 ∨ er = 0 by omega) with he | he
          · have c1 : (er == 0) = false := beq_eq_false_iff_ne.mpr he
            have c2 : (er != 0) = true := bne_iff_ne.mpr he
            have HE : Hid (lsc s q = (true, l, i)) := Lib.hid (by rw [← HSC.out]; exact lsc_stop HV0.out (.inl he))
            go_wp2
            go_step3
            exact ⟨_, by rw [HN.out]; omega, LrJ.out l HLB2.out hi HE.out⟩
          · subst he
            have hlen : p.toList.length = p.size := by rw [ByteArray.toList_eq, data_length]
            rcases (show p.size = 0 ∨ 1 ≤ p.size by omega) with hp0 | hp0
            · have HE : Hid (lsc s q = (true, l, i)) := Lib.hid (by rw [← HSC.out]; exact lsc_stop HV0.out (.inr hp0))
              have hps : p.toList = [] := List.eq_nil_of_length_eq_zero (hlen.trans hp0)
              clear hp0 hlen
              go_wp2
              go_step3
              exact ⟨_, by rw [HN.out]; omega, LrJ.out l HLB2.out hi HE.out⟩
            · obtain ⟨z, rfl, hz6, hzS, hp16⟩ := nxt_fits HV.out
              have hps : p.toList.isEmpty = false := by
                cases hc : p.toList with
                | nil => rw [hc] at hlen; simp at hlen; omega
                | cons a t => rfl
              have hx5 : ∀ h : 0 < p.size, ((p[0]'h).toNat : Int) = bt p 0 := bt_at p 0
              have hpp : (0 : Int) < p.size := by omega
              obtain ⟨hr0, hr1⟩ := bt_range p 0
              have HPN : Hid (p.size ≠ 0) := Lib.hid (by omega)
              obtain ⟨j, hj⟩ : ∃ j, j = i + z := ⟨_, rfl⟩
              have hw0 : (i : Int) + (z : Int) = (j : Int) := by omega
              have hj0 : (0 : Int) ≤ (j : Int) := by omega
              have hj1 : (j : Int) ≤ 1048576 := by omega
              have HJ : Hid (j ≤ s.size ∧ l.length + 1 ≤ j ∧ s.size - j < k') := Lib.hid (by have := HK.out; omega)
              have HLTN : Hid (s.size - j < s.size - i) := Lib.hid (by omega)
              have hl16 : (l.length + 1) * 16 ≤ 140737488355328 := by omega
              have HIJ := Lib.hid hj
              obtain ⟨b, hbt⟩ : ∃ b, b = bt p 0 := ⟨_, rfl⟩
              rw [← hbt] at hx5 hr0 hr1
              have HBT := Lib.hid hbt
              clear hlen hj hbt hzS hz6 hp0
              have HE1 : Hid (True ∨ p ≠ eP) := Lib.hid (.inl trivial)
              by_cases hb2 : b = 82
              · have cb : (b == 82) = true := by rw [hb2]; rfl
                have HSC2 : Hid (lscN k' s true (l ++ [p.extract 1 p.size]) j = lsc s q) := Lib.hid (by rw [← HSC.out, HIJ.out]; exact (lsc_more HV0.out HPN.out (.inl rfl) (by rw [← HBT.out, hb2]; rfl)).symm)
                have hp1 : (1 : Int) ≤ p.size := by omega
                have ch : w2.cell? ⟨hb, 1, none⟩ = some v := (blk_cell HLB2.out.h 1).trans rfl
                have fh := blk_frozen HLB2.out.h 1
                have hblt : hb < w2.heap.size := lt_of_at HLB2.out.h
                have hbne := World.new_ne w2 ⟨hb, 1, none⟩ ch
                have HRD : Hid (Kd.R Kd.string 9 w2.drew w.heap.size (fun _ => True) v l) := Lib.hid (Kd.R_drew HLB2.out.R)
                have HBD : Hid (Below w.heap.size w w2.drew) := Lib.hid (below_drew1 HLB2.out.b)
                have HHK : Hid (∀ w3, w2.drew.grownBy w3 v.ownBlock → w3.heap[hb]? = some (.cells #[.int .u64 gen, v, .int .i64 0] 71 (0, 0))) := Lib.hid (fun w3 hg => (hg.block hb (lt_of_at HLB2.out.h) (fun e => (HLB2.out.own hb e.symm).2 rfl)).trans HLB2.out.h)
                have HEX : Hid (p.extract 1 p.size = p.extract 1 p.size) := rfl
                clear hb2
                obtain ⟨x, hx⟩ : ∃ x, x = p.extract 1 p.size := ⟨_, rfl⟩
                rw [← hx] at HSC2
                have HX := Lib.hid hx
                clear hx
                go_wp2_with fail
                go_region_law ((refine Kd.R_append_step Kd.string (w0 := w) w.heap.size (by rfl) (.tmp 60) (.tmp 63) 30 9 (.string ⟨#[]⟩) 16 (by rfl) Try.underlying30 info_str (by rfl) (by decide) (by omega) v l (p.extract 1 p.size) [.string (p.extract 1 p.size)] (fun _ => True) (fun _ => False) (by rfl) (by rfl) (by exact rfl) (fun _ hk => hk.elim) (fun _ _ => trivial) HRD.out HBD.out HBD.out.size hl16 ?_; intro v1 w3 hR3 hB3 hgr3 hat3; obtain ⟨A1, c1, rfl⟩ := Kd.R_slice hR3; have ch3 := (blk_cell (HHK.out w3 hgr3) 1).trans rfl; have fh3 := blk_frozen (HHK.out w3 hgr3) 1))
                all_goals (
                  have HLB3 : Hid (LrB w gen rb hb (l ++ [x]) (.slice A1 (l.length + 1) c1) (w3.setCell ⟨hb, 1, none⟩ (.slice A1 (l.length + 1) c1))) := Lib.hid (by
                    rw [List.length_append] at hR3
                    rw [HX.out]
                    exact (HLB2.out.below (below_drew (Below.refl _ _))).more hgr3 hR3 hB3)
                  have HLL : Hid ((l ++ [x]).length ≤ j) := Lib.hid (by rw [List.length_append]; exact HJ.out.2.1)
                  clear hR3 hB3 hgr3 hat3 ch3 fh3 ch fh hbne
                  go_wp2
                  go_step3
                  exact ⟨_, by rw [HN.out]; have := HLTN.out; omega, LrJ.next k' (l ++ [x]) HLB3.out HJ.out.1 HLL.out HJ.out.2.2 HSC2.out⟩)
              · have cb : (b == 82) = false := beq_eq_false_iff_ne.mpr hb2
                have HE : Hid (lsc s q = (true, l, i)) := Lib.hid (by rw [← HSC.out]; exact lsc_other HV0.out HPN.out (.inl rfl) (by rw [← HBT.out]; exact hb2))
                go_wp2
                go_step3
                exact ⟨_, by rw [HN.out]; omega, LrJ.out l HLB2.out hi HE.out⟩
      · refine ⟨_, rfl, ?_⟩
        have HR := Lib.hid (HH1.out d l i hsc)
        have ch0 : w'.cell? ⟨hb, 0, none⟩ = some (.int .u64 gen) := (blk_cell hLB.h 0).trans rfl
        have ch1 : w'.cell? ⟨hb, 1, none⟩ = some v := (blk_cell hLB.h 1).trans rfl
        have ch2 : w'.cell? ⟨hb, 2, none⟩ = some (.int .i64 0) := (blk_cell hLB.h 2).trans rfl
        have fh2 := blk_frozen hLB.h 2
        have d0 : w'.cell? ⟨rb, 0, none⟩ = some (.int .u64 0) := (blk_cell hLB.r 0).trans rfl
        have d1 : w'.cell? ⟨rb, 1, none⟩ = some (.slice none 0 0) := (blk_cell hLB.r 1).trans rfl
        have d2 : w'.cell? ⟨rb, 2, none⟩ = some (.int .i64 0) := (blk_cell hLB.r 2).trans rfl
        have e0 := blk_frozen hLB.r 0
        have e1 := blk_frozen hLB.r 1
        have e2 := blk_frozen hLB.r 2
        have hne := hLB.ne
        have hne2 : hb ≠ rb := Ne.symm hne
        have hlt1 := lt_of_at hLB.h
        have hlt2 := lt_of_at hLB.r
        obtain ⟨A, c, rfl⟩ := Kd.R_slice hLB.R
        have HLB := Lib.hid hLB
        clear hLB hn hsc HH1 HH
        go_wp2_with fail
        simp only [jumps_ret]
        refine bodyPost_ret (results_ct rfl _ _ rb 71 #[.int .u64 gen, .slice A l.length c, .int .i64 (i : Int)] (0, 0) _ rfl ?_ Try.underlying71 rfl (by kernel_rfl)) rfl ?_
        · refine blk_put (cs := #[.int .u64 gen, .slice A l.length c, .int .i64 0]) ?_ 2 _ rfl
          refine blk_put (cs := #[.int .u64 gen, .slice none 0 0, .int .i64 0]) ?_ 1 _ rfl
          refine blk_put (cs := #[.int .u64 0, .slice none 0 0, .int .i64 0]) ?_ 0 _ rfl
          exact (Below.heap_setCell w' ⟨hb, 2, none⟩ _ rb HLB.out.ne).trans HLB.out.r
        · have hB := (((HLB.out.b.setCell (p := ⟨hb, 2, none⟩) HLB.out.gh (.int .i64 (i : Int))).setCell (p := ⟨rb, 0, none⟩) HLB.out.gr (.int .u64 gen)).setCell (p := ⟨rb, 1, none⟩) HLB.out.gr (.slice A l.length c)).setCell (p := ⟨rb, 2, none⟩) HLB.out.gr (.int .i64 (i : Int))
          refine ⟨gen, .slice A l.length c, (i : Int), ?_, ?_, ?_, ⟨_, _, _, rfl⟩, hB⟩
          · rw [HR.out]; cases d <;> rfl
          · rw [HR.out]; cases d
            · intro h; cases h
            · exact fun _ => ⟨rfl, rfl⟩
          · rw [HR.out]; cases d
            · intro h; cases h
            · intro _
              show Kd.R Kd.string 9 _ w.heap.size (fun _ => True) (.slice A l.length c) l
              obtain ⟨a1, cs, ho, a3⟩ := HLB.out.R
              refine ⟨a1, cs, own_move ho (fun k hk => ?_), a3⟩
              obtain ⟨n1, n2⟩ := HLB.out.own k hk
              exact (Below.heap_setCell _ ⟨rb, 2, none⟩ _ k n1).trans ((Below.heap_setCell _ ⟨rb, 1, none⟩ _ k n1).trans ((Below.heap_setCell _ ⟨rb, 0, none⟩ _ k n1).trans (Below.heap_setCell _ ⟨hb, 2, none⟩ _ k n2)))
end Go.Proofs.Ytccdmedhkbabpaa
/- The document's read of a log: what it answers, as the same plain word. Conditions: those that each theorem names. -/
namespace Go.Proofs.Ytccdmedhkbabpaa
open Go.RowKit Go.Proofs.YtccdmedhkbabpaaW.PrintWords PRd PFr

theorem prefix_G (p : ByteArray) : Lib.hasPrefix p.data.toList [71] = true ↔ (p.size ≠ 0 ∧ bt p 0 = 71) := by
  have hsz : p.size = p.data.toList.length := by obtain ⟨⟨l⟩⟩ := p; rfl
  have hb : bt p 0 = if h : 0 < p.data.toList.length then ((p.data.toList[0]'h).toNat : Int) else 0 := by
    obtain ⟨⟨l⟩⟩ := p
    rfl
  unfold Lib.hasPrefix
  rw [hsz, hb]
  cases h : p.data.toList with
  | nil => simp
  | cons a t =>
    simp [List.isPrefixOf]
    constructor
    · rintro rfl; rfl
    · intro h
      have := UInt8.toNat_inj (a := 71) (b := a)
      apply this.1
      show 71 = a.toNat
      omega
end Go.Proofs.Ytccdmedhkbabpaa
/- The log's Renew. Conditions: those that each theorem names. -/
namespace Go.Proofs.Ytccdmedhkbabpaa
open Go.RowKit Go.Proofs.YtccdmedhkbabpaaW.PrintWords

/-- The first area that isn't there. -/
def ffA (A : Nat → Ar) : Nat := if (A 0).isSome then (if (A 1).isSome then (if (A 2).isSome then (if (A 3).isSome then 4 else 3) else 2) else 1) else 0
theorem hasR_nat (A : Nat → Ar) (k : Nat) (hk : k < 4) : hasR A (k : Int) = (A k).isSome := by
  unfold hasR; rw [if_neg (by omega), Int.toNat_natCast]
theorem hasR_four (A : Nat → Ar) : hasR A 4 = false := if_pos (.inr (by decide))
theorem ffA_at (A : Nat → Ar) (k : Nat) (hk : k ≤ 4) (h : ∀ j, j < k → (A j).isSome = true) (hf : hasR A (k : Int) = false) : ffA A = k := by
  unfold ffA
  rcases (show k = 0 ∨ k = 1 ∨ k = 2 ∨ k = 3 ∨ k = 4 by omega) with rfl | rfl | rfl | rfl | rfl
  · rw [hasR_nat A 0 (by decide)] at hf
    rw [hf]; rfl
  · rw [hasR_nat A 1 (by decide)] at hf
    rw [h 0 (by decide), hf]; rfl
  · rw [hasR_nat A 2 (by decide)] at hf
    rw [h 0 (by decide), h 1 (by decide), hf]; rfl
  · rw [hasR_nat A 3 (by decide)] at hf
    rw [h 0 (by decide), h 1 (by decide), h 2 (by decide), hf]; rfl
  · rw [h 0 (by decide), h 1 (by decide), h 2 (by decide), h 3 (by decide)]; rfl
def genUp (gen : Int) : Int := IntKind.u64.wrap (gen + 1)
theorem genUp_range (gen : Int) : 0 ≤ genUp gen ∧ genUp gen ≤ 18446744073709551615 := by
  have e64 : genUp gen = (gen + 1) % 18446744073709551616 := rfl
  omega
def allFit (rs : List ByteArray) : Bool := rs.all fun x => decide (x.size ≤ 16000)
/-- A drum step that follows another one. -/
def thenCut (r : Rs) (n : Int) : Rs := stepR r.2.1 r.2.2.1 r.2.2.2 n thereRef cutAct
/-- Behind Renew: the answer and the drum; the log's area, its generation. -/
def renR (room left : Int) (down : Bool) (A : Nat → Ar) (area gen : Int) (rs : List ByteArray) : Rs × Int × Int :=
  if allFit rs = false then ((3, left, down, A), area, gen)
  else
    if (layR room left down A (ffA A) (genUp gen) rs).1 = 0 then (thenCut (layR room left down A (ffA A) (genUp gen) rs) area, (ffA A : Int), genUp gen)
    else if hasR (layR room left down A (ffA A) (genUp gen) rs).2.2.2 (ffA A) = true then (((layR room left down A (ffA A) (genUp gen) rs).1, (thenCut (layR room left down A (ffA A) (genUp gen) rs) (ffA A)).2), area, gen)
    else (layR room left down A (ffA A) (genUp gen) rs, area, gen)
theorem wsR_fit {room left : Int} {down : Bool} {A : Nat → Ar} (h : Fit room left A) (n : Int) (s : ByteArray) : FitR room (wsR room left down A n s) := by
  have h1 : FitR room (stepR left down A n (writeRef (usedTo A 4) s.size room) (writeAct s)) := h.write n s
  unfold wsR
  split
  · exact Fit.sync (down := (stepR left down A n (writeRef (usedTo A 4) s.size room) (writeAct s)).2.2.1) h1 n
  · exact h1
theorem layR_fit {room left : Int} {down : Bool} {A : Nat → Ar} (h : Fit room left A) (n gen : Int) (rs : List ByteArray) : FitR room (layR room left down A n gen rs) := by
  have h1 : FitR room (stepR left down A n layRef layAct) := h.lay n
  unfold layR
  split
  · exact wsR_fit (down := (stepR left down A n layRef layAct).2.2.1) h1 n _
  · exact h1
theorem renR_fit {room left : Int} {down : Bool} {A : Nat → Ar} (h : Fit room left A) (area gen : Int) (rs : List ByteArray) : FitR room (renR room left down A area gen rs).1 := by
  have h1 : FitR room (layR room left down A (ffA A) (genUp gen) rs) := layR_fit h _ _ _
  unfold renR
  split
  · exact h
  · split
    · exact Fit.cut (down := (layR room left down A (ffA A) (genUp gen) rs).2.2.1) h1 _
    · split
      · exact Fit.cut (down := (layR room left down A (ffA A) (genUp gen) rs).2.2.1) h1 _
      · exact h1
variable {Y : Nat → Obj → Prop} {w0 w : World} {g gl : Nat} {room left area gen : Int} {down : Bool} {A : Nat → Ar} {K : Nat → Nat} {V : Nat → Value}
theorem LX.f (h : IsD (LX Y gl g area gen) w0 w g room left down A K V) (n : Nat) : w.frozen? ⟨gl, n, none⟩ = false := blk_frozen (LX.at h) n
/-- The log's own two numbers are stored. -/
theorem IsD.setLog (h : IsD (LX Y gl g area gen) w0 w g room left down A K V) (hY : ∀ k o, Y k o → k ≠ gl) (a' g' : Int) :
    IsD (LX Y gl g a' g') w0 ((w.setCell ⟨gl, 1, none⟩ (.int .i64 a')).setCell ⟨gl, 2, none⟩ (.int .u64 g')) g room left down A K V := by
  have hl := LX.at h
  have hm : ∀ k, k ≠ gl → ((w.setCell ⟨gl, 1, none⟩ (.int .i64 a')).setCell ⟨gl, 2, none⟩ (.int .u64 g')).heap[k]? = w.heap[k]? := fun k hk => (Below.heap_setCell _ ⟨gl, 2, none⟩ _ k hk).trans (Below.heap_setCell _ ⟨gl, 1, none⟩ _ k hk)
  refine ⟨(hm g (blk_ty h.hb hl (by decide))).trans h.hb, h.hg, fun i hi b s e => ?_, h.hs, fun k o hk => ?_⟩
  · obtain ⟨h1, h2, h3⟩ := h.ha i hi b s e
    exact ⟨(hm _ (blk_ty h1 hl (by decide))).trans h1, h2, own_move h3 fun k hk => hm k (row_ne h3 hl (by decide) k hk)⟩
  · rcases hk with ⟨rfl, rfl⟩ | hk
    · refine ⟨?_, lobj_ok _ _ _⟩
      refine blk_put (cs := #[.pointer (some ⟨g, 0, none⟩), .int .i64 a', .int .u64 gen]) ?_ 2 _ rfl
      exact blk_put (cs := #[.pointer (some ⟨g, 0, none⟩), .int .i64 area, .int .u64 gen]) hl 1 _ rfl
    · obtain ⟨h1, h2⟩ := h.hx k o (.inr hk)
      exact ⟨(hm k (hY k o hk)).trans h1, h2⟩
/-- The log behind a Renew. -/
def AtL (Y : Nat → Obj → Prop) (w0 w' : World) (g gl : Nat) (room : Int) (r : Rs × Int × Int) : Prop := AtD (LX Y gl g r.2.1 r.2.2) w0 w' g room r.1
set_option maxRecDepth 100000 in
set_option maxHeartbeats 8000000 in
theorem lrenew_calls (R : Option Addr) (c : Nat) (rs : List ByteArray) (hS : StrOn Y w0 R rs) (hc : rs.length ≤ c) (hY : ∀ k o, Y k o → k ≠ gl) (hgl : w0.heap.size ≤ gl) (hI : IsD (LX Y gl g area gen) w0 w g room left down A K V) (hB : Below w0.heap.size w0 w) (hF : Fit room left A) (ha64 : -9223372036854775808 ≤ area ∧ area ≤ 9223372036854775807)
    (hg0 : 0 ≤ gen) (hg1 : gen ≤ 18446744073709551615) (hsz : allFit rs = true → (layB (genUp gen) rs).size ≤ 140737488355328) (hrm0 : room ≤ 1048576) (hrl : rs.length ≤ 9223372036854775806) (hrz : ∀ x ∈ rs, x.size ≤ 140737488355328) :
    Calls Try.prog 12 #[.pointer (some ⟨gl, 0, none⟩), .slice R rs.length c] w fun e w' => e = .returned (.int .i64 (renR room left down A area gen rs).1.1) ∧ AtL Y w0 w' g gl room (renR room left down A area gen rs) := by
  have HS := Lib.hid hS
  have HI := Lib.hid hI
  have HB := Lib.hid hB
  have HF := Lib.hid hF
  have HA := Lib.hid ha64
  have HG := Lib.hid (And.intro hg0 hg1)
  have HSZ := Lib.hid hsz
  have HRM := Lib.hid hrm0
  have HRZ := Lib.hid hrz
  have HY := Lib.hid hY
  have HGL := Lib.hid hgl
  have HC := Lib.hid hc
  clear hS hI hB hF ha64 hg0 hg1 hsz hrm0 hrz hY hgl hc
  go_enter Try.func12, Try.ntmps12
  go_wp2_with fail
  go_loopg [14] (rs.length + 1) (fun gk v14 wr => ∃ (k : Nat), k ≤ rs.length ∧ v14 = .int .i64 (k : Int) ∧ Aside0 (k + gk = rs.length + 1) ∧ Aside0 (∀ x ∈ rs.take k, x.size ≤ 16000) ∧ Aside0 (IsD (LX Y gl g area gen) w0 wr g room left down A K V ∧ Below w0.heap.size w0 wr))
  case atStart => exact ⟨0, Nat.zero_le _, rfl, ⟨by omega⟩, ⟨by simp⟩, ⟨HI.out, HB.out⟩⟩
  case round =>
    obtain ⟨k, hk, rfl, ⟨hg⟩, ⟨hall⟩, ⟨hI, hB⟩⟩ := hrel
    have HGK := Lib.hid hg
    have HALL := Lib.hid hall
    have HI := Lib.hid hI
    have HB := Lib.hid hB
    clear hg hall hI hB
    rcases (show k < rs.length ∨ k = rs.length by omega) with hlt | hlt
    · have hC := HS.out wr HB.out (fun k o hk => (HI.out.hx k o (.inr hk)).1)
      obtain ⟨ad, rfl, k0⟩ := Kd.at_string hC (k : Int) (by omega) (by omega)
      have hx : rdOf ByteArray.empty rs (k : Int) = rs[k] := by unfold rdOf; rw [List.getD_eq_getElem?_getD, Int.toNat_natCast, List.getElem?_eq_getElem hlt]; rfl
      rw [hx] at k0
      simp only [Int.toNat_natCast] at k0
      have hsx := HRZ.out rs[k] (List.getElem_mem hlt)
      have HT : Hid (rs[k].size ≤ 16000 → ∀ x ∈ rs.take (k + 1), x.size ≤ 16000) := Lib.hid (by
        intro h x hx
        rw [List.take_succ_eq_append_getElem hlt, List.mem_append, List.mem_singleton] at hx
        rcases hx with hx | rfl
        · exact HALL.out x hx
        · exact h)
      have HBIG : Hid (¬ rs[k].size ≤ 16000 → allFit rs = false) := Lib.hid (by
        intro h
        cases hf : allFit rs with
        | false => rfl
        | true =>
          unfold allFit at hf
          rw [List.all_eq_true] at hf
          have := hf rs[k] (List.getElem_mem hlt)
          exact absurd (by simpa using this) h)
      obtain ⟨x, hxx⟩ : ∃ x, x = rs[k] := ⟨_, rfl⟩
      rw [← hxx] at k0 hsx HT HBIG
      clear hx hxx hC
      rcases (show (x.size : Int) ≤ 16000 ∨ 16000 < (x.size : Int) by omega) with hxs | hxs
      · have HT2 := Lib.hid (HT.out (by omega))
        clear HT HBIG
        go_wp2_with fail
        go_roundg (gk - 1)
        case measure => have := HGK.out; omega
        case rel => exact ⟨k + 1, by omega, by go_num, ⟨by have := HGK.out; omega⟩, ⟨HT2.out⟩, ⟨HI.out, HB.out⟩⟩
      · have HR : Hid (renR room left down A area gen rs = ((3, left, down, A), area, gen)) := Lib.hid (if_pos (HBIG.out (by omega)))
        clear HT HBIG
        go_wp2_with fail
        go_ret
        rw [HR.out]
        exact ⟨rfl, ⟨K, V, HI.out⟩, HB.out⟩
    · subst hlt
      have HFT : Hid (allFit rs = true) := Lib.hid (by
        have h := HALL.out
        rw [List.take_length] at h
        unfold allFit
        rw [List.all_eq_true]
        intro x hx
        exact decide_eq_true (h x hx))
      have HR : Hid (renR room left down A area gen rs = if (layR room left down A (ffA A) (genUp gen) rs).1 = 0 then (thenCut (layR room left down A (ffA A) (genUp gen) rs) area, (ffA A : Int), genUp gen)
    else if hasR (layR room left down A (ffA A) (genUp gen) rs).2.2.2 (ffA A) = true then (((layR room left down A (ffA A) (genUp gen) rs).1, (thenCut (layR room left down A (ffA A) (genUp gen) rs) (ffA A)).2), area, gen)
    else (layR room left down A (ffA A) (genUp gen) rs, area, gen)) := Lib.hid (if_neg (by rw [HFT.out]; decide))
      have HSZ2 := Lib.hid (HSZ.out HFT.out)
      clear HALL HGK HSZ
      go_wp2_with fail
      go_loopg [7] 5 (fun gk v7 wq => ∃ (k : Nat), k ≤ 4 ∧ v7 = .int .i64 (k : Int) ∧ Aside0 (k + gk = 5) ∧ Aside0 (∀ j, j < k → (A j).isSome = true) ∧ Aside0 (IsD (LX Y gl g area gen) w0 wq g room left down A K V ∧ Below w0.heap.size w0 wq))
      case atStart => exact ⟨0, by decide, rfl, ⟨rfl⟩, ⟨fun j hj => absurd hj (by omega)⟩, ⟨HI.out, HB.out⟩⟩
      case round =>
        clear HI HB
        obtain ⟨k, hk4, rfl, ⟨hg⟩, ⟨hall⟩, ⟨hI, hB⟩⟩ := hrel
        have HGK := Lib.hid hg
        have HALL := Lib.hid hall
        have HI := Lib.hid hI
        have HB := Lib.hid hB
        have c0 := LX.c0 hI
        have c1 := LX.c1 hI
        have c2 := LX.c2 hI
        clear hg hall hI hB
        go_wp2_with fail
        refine (has_calls (k : Int) HI.out).mono ?_
        rintro e w2 ⟨rfl, rfl⟩
        have HFF := Lib.hid (ffA_at A k hk4 HALL.out)
        have HNX : Hid (hasR A (k : Int) = true → k < 4 ∧ ∀ j, j < k + 1 → (A j).isSome = true) := Lib.hid (by
          intro h
          rcases (show k < 4 ∨ k = 4 by omega) with h4 | rfl
          · refine ⟨h4, fun j hj => ?_⟩
            rw [hasR_nat A k h4] at h
            rcases (show j < k ∨ j = k by omega) with hj | rfl
            · exact HALL.out j hj
            · exact h
          · exact absurd h (by rw [show ((4 : Nat) : Int) = 4 from rfl, hasR_four]; decide))
        cases hhas : hasR A (k : Int) with
        | true =>
          have HN2 := Lib.hid (HNX.out hhas)
          clear HNX HFF hhas
          go_wp2_with fail
          go_roundg (gk - 1)
          case measure => have := HGK.out; omega
          case rel => exact ⟨k + 1, HN2.out.1, by go_num, ⟨by have := HGK.out; have := HN2.out; omega⟩, ⟨HN2.out.2⟩, ⟨HI.out, HB.out⟩⟩
        | false =>
          have hff := HFF.out hhas
          rw [hff] at HR
          clear HNX HFF hhas HGK HALL hff
          have hgu := genUp_range gen
          obtain ⟨gu, hgu2⟩ : ∃ gu, gu = genUp gen := ⟨_, rfl⟩
          rw [← hgu2] at hgu HR HSZ2
          have HGU := Lib.hid hgu
          have HGU2 := Lib.hid hgu2
          clear hgu hgu2
          go_wp2_with fail
          rw [show IntKind.u64.wrap (gen + 1) = gu from HGU2.out.symm]
          refine (llay_calls (k : Int) gu R c rs HS.out HC.out HI.out HB.out HF.out ⟨by omega, by omega⟩ HGU.out.1 HGU.out.2 HSZ2.out HRM.out (by omega) HRZ.out).mono ?_
          have HFR := Lib.hid (layR_fit (down := down) HF.out (k : Int) gu rs)
          generalize layR room left down A (k : Int) gu rs = r at *
          rintro e w3 ⟨rfl, ⟨K3, V3, hI3⟩, hB3⟩
          have HI3 := Lib.hid hI3
          have HB3 := Lib.hid hB3
          have d0 := LX.c0 hI3
          have d1 := LX.c1 hI3
          have d2 := LX.c2 hI3
          have f1 := LX.f hI3 1
          have f2 := LX.f hI3 2
          have hFL := HFR.out.left
          have HFL := Lib.hid hFL
          clear hI3 hB3 HI HB c0 c1 c2 hFL
          obtain ⟨r1, hr1⟩ : ∃ x, x = r.1 := ⟨_, rfl⟩
          rw [← hr1] at HR ⊢
          have HR1 := Lib.hid hr1
          clear hr1
          rcases (show r1 = 0 ∨ r1 ≠ 0 by omega) with hz | hz
          · rw [if_pos hz] at HR
            subst hz
            have HI4 := Lib.hid (HI3.out.setLog HY.out (k : Int) gu)
            have HB4 := Lib.hid ((HB3.out.setCell (p := ⟨gl, 1, none⟩) HGL.out (.int .i64 (k : Int))).setCell (p := ⟨gl, 2, none⟩) HGL.out (.int .u64 gu))
            go_wp2_with fail
            rw [show IntKind.u64.wrap (gen + 1) = gu from HGU2.out.symm]
            refine (cut_calls area HI4.out HB4.out HFL.out HA.out).mono ?_
            rintro e w4 ⟨rfl, hA4⟩
            have HA4 := Lib.hid hA4
            clear hA4 HI4 HB4 HI3 HB3 d0 d1 d2 f1 f2
            go_wp2_with fail
            go_ret
            rw [HR.out]
            exact ⟨rfl, HA4.out⟩
          · rw [if_neg hz] at HR
            have c7 : (r1 == 0) = false := beq_eq_false_iff_ne.mpr hz
            have c8 : (r1 != 0) = true := bne_iff_ne.mpr hz
            clear hz
            go_wp2_with fail
            refine (has_calls (k : Int) HI3.out).mono ?_
            rintro e w4 ⟨rfl, rfl⟩
            cases hhas : hasR r.2.2.2 (k : Int) with
            | true =>
              rw [if_pos hhas] at HR
              clear hhas
              go_wp2_with fail
              refine (cut_calls (k : Int) HI3.out HB3.out HFL.out ⟨by omega, by omega⟩).mono ?_
              rintro e w5 ⟨rfl, hA4⟩
              have HA4 := Lib.hid hA4
              clear hA4 HI3 HB3 d0 d1 d2 f1 f2
              generalize (stepR r.2.1 r.2.2.1 r.2.2.2 (k : Int) thereRef cutAct).1 = q1
              go_wp2_with fail
              go_ret
              rw [HR.out]
              exact ⟨rfl, HA4.out⟩
            | false =>
              rw [if_neg (by rw [hhas]; decide)] at HR
              clear hhas
              go_wp2_with fail
              go_ret
              rw [HR.out]
              exact ⟨by rw [HR1.out]; rfl, ⟨K3, V3, HI3.out⟩, HB3.out⟩
theorem lrenew_nil (R : Option Addr) (n c : Nat) (w : World) : Calls Try.prog 12 #[.pointer none, .slice R n c] w fun e w' => e = .returned (.int .i64 11) ∧ w' = w := by
  go_enter Try.func12, Try.ntmps12
  go_wp2_with fail
  go_ret
  exact ⟨rfl, rfl⟩
end Go.Proofs.Ytccdmedhkbabpaa

/- Texts of this claim, one behind the other: what their heads say. Conditions: those that each theorem names. -/
import Derived.Shelf.Strings.Builder1
import Derived.Shelf.Strconv.Itoa0
import Derived.Shelf.Strings.Prefix
import Derived.Test.YtccdmedhkbabpaaProg
import Derived.Below
import Derived.Deep.Draws
import Derived.Deep.AppendLies
import Derived.Maps.AppendAt
import Derived.OwnWalk
import Derived.Laws.BytesArg
import Derived.Laws.MakeOwn
import Derived.Laws.OwnMore
import Derived.Deep.OwnRows
import Derived.Tactics
import Derived.Lib.ConvBytes
import Derived.Laws.Slices
import Derived.WalkKit
import Derived.KernelRfl
import Derived.RowKit3
import Derived.Deep.LoopGhost
import Derived.Deep.QuietTactic
import Derived.BigQuiet
import Derived.WideLaws
import Derived.Deep.DeepCutAuto
import Derived.Deep.CutBlock
import Derived.Deep.RegionHeld3
import Derived.Laws.Rows
import Derived.Lib.AppendStr
import Derived.ArgAppend
import Derived.Laws.IdiomCopy
import Derived.OrdersHeld
import Derived.Laws.BitsLemmas
import Derived.RowKit
import Derived.Test.YtccdmedhkbabpaaWWords
import Derived.Test.YtccdmedhkbabpaaWLast
import Derived.Test.YtccdmedhkbabpaaWTab
import Derived.Test.YtccdmedhkbabpaaWQPut
import Derived.Test.YtccdmedhkbabpaaWApart
import Derived.Test.YtccdmedhkbabpaaWArr
import Derived.Test.YtccdmedhkbabpaaWZeros
import Derived.Test.YtccdmedhkbabpaaWFoot
import Derived.Test.YtccdmedhkbabpaaWKept
import Derived.Test.YtccdmedhkbabpaaWShare
import Derived.Test.YtccdmedhkbabpaaWN
import Derived.Test.YtccdmedhkbabpaaWRepsOne
import Derived.Test.YtccdmedhkbabpaaWGuard
import Derived.Test.YtccdmedhkbabpaaWNEv
import Derived.Test.YtccdmedhkbabpaaWMore
import Derived.Lib.BitFns
import Derived.ScopeJumps
import Derived.WalkMore
import Derived.Lib.Hide
import Derived.WalkLawsBesides
import Derived.Deep.RegionLaw
set_option linter.unusedVariables false
set_option linter.unusedSimpArgs false
/-
  DERIVED: THE SHELF's CONTRACTS AT THIS DUMP, IN PLAIN WORDS (tools/lay-plain.mjs out of 'TryShelf.lean', which tools/lay-shelf.mjs wrote): THE SAME DECLARATIONS UNDER THE SAME NAMES: 'import', 'namespace', 'open', 'def', 'theorem' AND NOTHING ELSE: no command of the shelf's: FOR A HAND-IN. Each laying: the table of numbers ('.._ren') and one theorem, a field a fact of the dump's own or the kernel's comparison; each contract: ONE APPLICATION.
-/
namespace Go.Proofs
open Go.Shelf
def Try.lays169_ren : Go.Shelf.Ren := ⟨fun | 169 => 54 | n => n, fun | 70 => 102 | 9 => 9 | 0 => 0 | 72 => 104 | 37 => 82 | 127 => 132 | 3 => 3 | 5 => 5 | n => n, fun | n => n⟩
theorem Try.lays169 : Go.Proofs.Lays.n169 Try.prog Try.lays169_ren := {
  mixed := by kernel_rfl
  f169 := Try.func54.trans (congrArg some (by kernel_rfl))
  t0 := Try.underlying0
  a0 := Try.isAgg0
  z0 := Try.sizeOf0
  v0 := Try.zeroValue0
  t3 := Try.underlying3
  a3 := Try.isAgg3
  z3 := Try.sizeOf3
  v3 := Try.zeroValue3
  t9 := Try.underlying9
  a9 := Try.isAgg9
  z9 := Try.sizeOf9
  v9 := Try.zeroValue9
  t37 := Try.underlying82
  a37 := Try.isAgg82
  z37 := Try.sizeOf82
  v37 := Try.zeroValue82
  t70 := Try.underlying102
  a70 := Try.isAgg102
  z70 := Try.sizeOf102
  v70 := Try.zeroValue102
  t72 := Try.underlying104
  a72 := Try.isAgg104
  z72 := Try.sizeOf104
  v72 := Try.zeroValue104
  t127 := Try.underlying132
  a127 := Try.isAgg132
  z127 := Try.sizeOf132
  v127 := Try.zeroValue132 }
theorem Try.Builder_Extra_169 : Builder.Extra Try.prog Try.lays169_ren := {
  sizeBuilder := by kernel_rfl
  liesBuilder := by kernel_rfl
  t5 := Try.underlying5
  a5 := Try.isAgg5
  z5 := Try.sizeOf5
  v5 := Try.zeroValue5
  infoByte := by kernel_rfl
  cellsByte := by kernel_rfl
  sizeByte := by kernel_rfl
  neB5 := by decide }
open Go.RowKit in
/-- (*strings.Builder).String: "String returns the accumulated string.": WHATEVER THE BUILDER HOLDS. (LAID: no walk: one application.) -/
theorem Try.Builder_String_any (B b : Nat) (l : List UInt8) (w : World) (h : Lib.IsBuilder 104 5 B b (Lib.byteCells l) w) (hBw : B ≤ w.heap.size) :
    Calls Try.prog 54 #[.pointer (some ⟨b, 0, none⟩)] w fun e w' => e = .returned (.string ⟨l.toArray⟩) ∧ Below B w w' := Any.Builder_String_any Try.lays169 Try.Builder_Extra_169 B b l w h hBw
def Try.lays129_ren : Go.Shelf.Ren := ⟨fun | 129 => 80 | n => n, fun | 53 => 44 | 3 => 3 | 4 => 4 | 46 => 133 | 5 => 5 | 9 => 9 | n => n, fun | n => n⟩
theorem Try.lays129 : Go.Proofs.Lays.n129 Try.prog Try.lays129_ren := {
  mixed := by kernel_rfl
  f129 := Try.func80.trans (congrArg some (by kernel_rfl))
  t3 := Try.underlying3
  a3 := Try.isAgg3
  z3 := Try.sizeOf3
  v3 := Try.zeroValue3
  t4 := Try.underlying4
  a4 := Try.isAgg4
  z4 := Try.sizeOf4
  v4 := Try.zeroValue4
  t5 := Try.underlying5
  a5 := Try.isAgg5
  z5 := Try.sizeOf5
  v5 := Try.zeroValue5
  t9 := Try.underlying9
  a9 := Try.isAgg9
  z9 := Try.sizeOf9
  v9 := Try.zeroValue9
  t46 := Try.underlying133
  a46 := Try.isAgg133
  z46 := Try.sizeOf133
  v46 := Try.zeroValue133
  t53 := Try.underlying44
  a53 := Try.isAgg44
  z53 := Try.sizeOf44
  v53 := Try.zeroValue44 }
/-- bits.Len64: "Len64 returns the minimum number of bits required to represent x; the result is 0 for x == 0.": IT RETURNS 'Lib.bitLen x'; the world is as it was. ('h0', 'h1': x is a uint64.) (LAID: no walk: one application.) -/
theorem Try.bits_Len64 (x : Int) (w : World) (h0 : 0 ≤ x) (h1 : x ≤ 18446744073709551615) :
    Calls Try.prog 80 #[.int .u64 x] w fun e w' => e = .returned (.int .i64 (Lib.bitLen x.toNat)) ∧ w' = w := Any.bits_Len64 Try.lays129 x w h0 h1
def Try.lays99_ren : Go.Shelf.Ren := ⟨fun | 99 => 71 | 206 => 89 | n => n, fun | 9 => 9 | 4 => 4 | 3 => 3 | n => n, fun | n => n⟩
theorem Try.lays99 : Go.Proofs.Lays.n99 Try.prog Try.lays99_ren := {
  mixed := by kernel_rfl
  f99 := Try.func71.trans (congrArg some (by kernel_rfl))
  f206 := Try.func89.trans (congrArg some (by kernel_rfl))
  t3 := Try.underlying3
  a3 := Try.isAgg3
  z3 := Try.sizeOf3
  v3 := Try.zeroValue3
  t4 := Try.underlying4
  a4 := Try.isAgg4
  z4 := Try.sizeOf4
  v4 := Try.zeroValue4
  t9 := Try.underlying9
  a9 := Try.isAgg9
  z9 := Try.sizeOf9
  v9 := Try.zeroValue9 }
open Go.RowKit Go.Lib in
/-- strings.HasPrefix: "HasPrefix reports whether the string s begins with prefix.": IT RETURNS 'Lib.hasPrefix s prefix'; the world is as it was. (LAID: no walk: one application.) -/
theorem Try.strings_HasPrefix (s p : ByteArray) (w : World) :
    Calls Try.prog 71 #[.string s, .string p] w fun e w' => e = .returned (.bool (Lib.hasPrefix s.data.toList p.data.toList)) ∧ w' = w := Any.strings_HasPrefix Try.lays99 s p w
end Go.Proofs
/- Contracts of Go functions and what each computes, as plain Lean functions: written by a program of this session over the kit's own print. Conditions: those that each theorem names. -/
namespace Go.Proofs.Ytccdmedhkbabpaa.PRd
open Go.RowKit Go.Proofs.YtccdmedhkbabpaaW.PrintWords Go.Proofs.YtccdmedhkbabpaaW.PrintLast Go.Proofs.YtccdmedhkbabpaaW.PrintMore
attribute [local go_sem] max2_int min2_int max_two min_two max_three min_three max_four min_four   -- for this text's walks alone



def errW : Option Int → Value
  | none => .nilIface
  | some c => .iface 0 (.int .i64 c)
theorem errW_none : errW none = .nilIface := rfl
theorem errW_some (c : Int) : errW (some c) = .iface 0 (.int .i64 c) := rfl

-- the values' own types

end Go.Proofs.Ytccdmedhkbabpaa.PRd

/- Contracts of Go functions and what each computes, as plain Lean functions: written by a program of this session over the kit's own print. Conditions: those that each theorem names. -/
namespace Go.Proofs.Ytccdmedhkbabpaa.PRd
open Go.RowKit Go.Proofs.YtccdmedhkbabpaaW.PrintWords Go.Proofs.YtccdmedhkbabpaaW.PrintLast Go.Proofs.YtccdmedhkbabpaaW.PrintMore
attribute [local go_sem] max2_int min2_int max_two min_two max_three min_three max_four min_four   -- for this text's walks alone

/-- A state of type 136 at block g of W; what its slices lead to came in by w0. -/
def IsS136 (w0 W : World) (g : Nat) (f0 : ByteArray) (f1 : Int) : Prop := W.heap[g]? = some (.cells #[.string f0, .int .i64 f1] 136 (0, 0)) ∧ w0.heap.size ≤ g
theorem IsS136.grown {w0 W : World} {g : Nat} {f0 : ByteArray} {f1 : Int} {W1 : World} {row : Option Nat} (h : IsS136 w0 W g f0 f1) (hw : W.grownBy W1 row) (hne : some g ≠ row) : IsS136 w0 W1 g f0 f1 := by
  obtain ⟨hb, hg⟩ := h
  exact ⟨blk_grown hb hw hne, hg⟩
theorem IsS136.kept {w0 W : World} {g : Nat} {f0 : ByteArray} {f1 : Int} {W1 : World} {S : Nat → Prop} (h : IsS136 w0 W g f0 f1) (hk : Kept W W1 S) (hne : ¬ S g) : IsS136 w0 W1 g f0 f1 := by
  obtain ⟨hb, hg⟩ := h
  exact ⟨blk_kept hb hk hne, hg⟩
theorem IsS136.below {w0 W : World} {g : Nat} {f0 : ByteArray} {f1 : Int} {W1 : World} (h : IsS136 w0 W g f0 f1) (hw : Below W.heap.size W W1) : IsS136 w0 W1 g f0 f1 := h.grown (grown_of_below hw none) (by simp)
theorem IsS136.alloc {w0 W : World} {g : Nat} {f0 : ByteArray} {f1 : Int} (h : IsS136 w0 W g f0 f1) (o : Obj) : IsS136 w0 (W.alloc o) g f0 f1 := h.below (below_alloc (Below.refl _ _) o)
theorem IsS136.drewN {w0 W : World} {g : Nat} {f0 : ByteArray} {f1 : Int} (h : IsS136 w0 W g f0 f1) (m : Nat) : IsS136 w0 (W.drewN m) g f0 f1 := h
theorem IsS136.drew {w0 W : World} {g : Nat} {f0 : ByteArray} {f1 : Int} (h : IsS136 w0 W g f0 f1) : IsS136 w0 W.drew g f0 f1 := h
theorem IsS136.at_ {w0 W : World} {g : Nat} {f0 : ByteArray} {f1 : Int} {w' : World} {m : Nat} (hq : W.drewN m = w') (h : IsS136 w0 W g f0 f1) : IsS136 w0 w' g f0 f1 := by subst hq; exact IsS136.drewN h m
theorem IsS136.apart {w0 W : World} {g : Nat} {f0 : ByteArray} {f1 : Int} {α : Type} {d : Kd α} {e : Nat} {base : Nat} {ok : Nat → Prop} {v : Value} {xs : List α} (h : IsS136 w0 W g f0 f1) (ho : d.R e W base ok v xs) (ht : ∀ q, q ∈ e :: d.E → q ≠ 136) : d.R e W base (fun k => ok k ∧ k ≠ g) v xs := by
  obtain ⟨hb, hg⟩ := h
  exact Kd.R_types ho hb ht
theorem IsS136.own_ne {w0 W : World} {g : Nat} {f0 : ByteArray} {f1 : Int} {α : Type} {d : Kd α} {e : Nat} {base : Nat} {ok : Nat → Prop} {v : Value} {xs : List α} (h : IsS136 w0 W g f0 f1) (ho : d.R e W base ok v xs) (ht : e ≠ 136) : some g ≠ v.ownBlock := by
  obtain ⟨hb, hg⟩ := h
  exact Kd.R_ne ho hb ht
theorem IsS136.lt {w0 W : World} {g : Nat} {f0 : ByteArray} {f1 : Int} (h : IsS136 w0 W g f0 f1) : g < W.heap.size := by
  obtain ⟨hb, hg⟩ := h
  exact blk_lt hb
theorem IsS136.ge {w0 W : World} {g : Nat} {f0 : ByteArray} {f1 : Int} (h : IsS136 w0 W g f0 f1) : w0.heap.size ≤ g := by
  obtain ⟨hb, hg⟩ := h
  exact hg
theorem IsS136.far {w0 W : World} {g : Nat} {f0 : ByteArray} {f1 : Int} {p : Addr} (h : IsS136 w0 W g f0 f1) (hne : g ≠ p.block) (u : Value) : IsS136 w0 (W.setCell p u) g f0 f1 := by
  obtain ⟨hb, hg⟩ := h
  exact ⟨blk_far hb hne u, hg⟩
theorem cellS136_0 {W : World} {g : Nat} {f0 : ByteArray} {f1 : Int} (h : W.heap[g]? = some (.cells #[.string f0, .int .i64 f1] 136 (0, 0))) : W.cell? ⟨g, 0, none⟩ = some (.string f0) := (blk_cell h 0).trans rfl
theorem IsS136.set_0 {w0 W : World} {g : Nat} {f0 : ByteArray} {f1 : Int} (h : IsS136 w0 W g f0 f1) (x : ByteArray) : IsS136 w0 (W.setCell ⟨g, 0, none⟩ (.string x)) g x f1 := by
  obtain ⟨hb, hg⟩ := h
  exact ⟨by simpa using blk_set hb 0 (.string x), hg⟩
theorem cellS136_1 {W : World} {g : Nat} {f0 : ByteArray} {f1 : Int} (h : W.heap[g]? = some (.cells #[.string f0, .int .i64 f1] 136 (0, 0))) : W.cell? ⟨g, 1, none⟩ = some (.int .i64 f1) := (blk_cell h 1).trans rfl
theorem IsS136.set_1 {w0 W : World} {g : Nat} {f0 : ByteArray} {f1 : Int} (h : IsS136 w0 W g f0 f1) (x : Int) : IsS136 w0 (W.setCell ⟨g, 1, none⟩ (.int .i64 x)) g f0 x := by
  obtain ⟨hb, hg⟩ := h
  exact ⟨by simpa using blk_set hb 1 (.int .i64 x), hg⟩
theorem IsS136.new (w0 W : World) (f0 : ByteArray) (f1 : Int) (hB : Below w0.heap.size w0 W) : IsS136 w0 (W.alloc (.cells #[.string f0, .int .i64 f1] 136)) W.heap.size f0 f1 := ⟨by simpa using heap_alloc_new W _, hB.size⟩

/-! ### pack_NewReader: function 72 -/
def pack_NewReader.f (a0 : ByteArray) : Option (ByteArray × Int) := some (a0, 0)
set_option maxHeartbeats 8000000 in
set_option maxRecDepth 100000 in
theorem pack_NewReader.calls (a0 : ByteArray) (r1 : ByteArray) (r2 : Int) (w0 w : World) (hB : Below w0.heap.size w0 w) (h : pack_NewReader.f a0 = some (r1, r2)) :
    Calls Try.prog 72 #[.string a0] w fun e w' => ∃ g_ : Nat, e = .returned (.pointer (some ⟨g_, 0, none⟩)) ∧ IsS136 w0 w' g_ r1 r2 ∧ Below w0.heap.size w0 w' ∧ Below w.heap.size w w' := by
  have hu136 := Try.underlying136
  have HBW := Aside0.mk (Below.refl w.heap.size w)
  have HW0 := Aside0.mk hB.size
  have HB := Aside0.mk hB
  clear hB
  have H : (some (a0, 0)) = some (r1, r2) := h
  clear h
  simp only [Option.some.injEq, Prod.mk.injEq] at H
  obtain ⟨rfl, rfl⟩ := H
  go_enter Try.func72, Try.ntmps72
  go_wp2_with (first | ((with_reducible refine gate_dst (N := 5) rfl ?_); refine box_event ?hg (N := 5) ?hd (cs := #[.string a0, .int .i64 0]) (t := 136) ?hr ?_; (case hd => rfl); (case hg => rfl); (case hr => first | (go_simp; done) | (go_simp; rfl)); intro gb101 hg w2 hbox hb; have n0_ := Aside0.mk (below_step HBW.out hb); have n1_ := Aside0.mk (below_step (by repeat (first | (with_reducible first | exact HB.out | apply below_alloc | apply pw_below_drewN | apply below_drew1) | exact HB.out)) hb); have n2_ := Aside0.mk (hbox); have n3_ := Aside0.mk ((by rw [hg]; exact (below_size (by repeat (first | (with_reducible first | exact HBW.out | apply below_alloc | apply pw_below_drewN | apply below_drew1) | exact HBW.out))) : w.heap.size ≤ gb101)); have n4_ := Aside0.mk ((Nat.le_trans HW0.out (by rw [hg]; exact (below_size (by repeat (first | (with_reducible first | exact HBW.out | apply below_alloc | apply pw_below_drewN | apply below_drew1) | exact HBW.out))) : w.heap.size ≤ gb101) : w0.heap.size ≤ gb101)); clear HBW; clear HB; have HBW := n0_; have HB := n1_; have BK101 := n2_; have GW101 := n3_; have GE101 := n4_; clear n0_ n1_ n2_ n3_ n4_; clear hb hbox hg))
  go_ret
  exact ⟨_, rfl, (show IsS136 w0 _ gb101 a0 0 from ⟨by (with_reducible repeat (first | refine blk_drewN ?_ _ | refine blk_drew ?_ | refine blk_alloc ?_ _)); exact BK101.out, GE101.out⟩), by repeat (first | (with_reducible first | exact HB.out | apply below_alloc | apply pw_below_drewN | apply below_drew1 | refine below_set ?_ GE101.out) | exact HB.out), by repeat (first | (with_reducible first | exact HBW.out | apply below_alloc | apply pw_below_drewN | apply below_drew1 | refine below_set ?_ GW101.out) | exact HBW.out)⟩

/-! ### pack_Reader_Err: function 75 -/
def pack_Reader_Err.f (s0_0 : ByteArray) (s0_1 : Int) : Option (Int × ByteArray × Int) := some (s0_1, s0_0, s0_1)
set_option maxHeartbeats 8000000 in
set_option maxRecDepth 100000 in
theorem pack_Reader_Err.calls (g : Nat) (s0_0 : ByteArray) (s0_1 : Int) (r1 : Int) (r2 : ByteArray) (r3 : Int) (w0 w : World) (hI : IsS136 w0 w g s0_0 s0_1) (hB : Below w0.heap.size w0 w) (h : pack_Reader_Err.f s0_0 s0_1 = some (r1, r2, r3)) :
    Calls Try.prog 75 #[.pointer (some ⟨g, 0, none⟩)] w fun e w' => e = .returned (.int .i64 r1) ∧ IsS136 w0 w' g r2 r3 ∧ Below w0.heap.size w0 w' ∧ KeepBut w w' g none := by
  have HI0 := Aside0.mk hI
  have HK := Aside0.mk (KeepBut.refl w g none)
  have HL := Aside0.mk hB.size
  clear hI
  have HW0 := Aside0.mk hB.size
  have HB := Aside0.mk hB
  clear hB
  have H : (some (s0_1, s0_0, s0_1)) = some (r1, r2, r3) := h
  clear h
  simp only [Option.some.injEq, Prod.mk.injEq] at H
  obtain ⟨rfl, rfl, rfl⟩ := H
  obtain ⟨HGz2, hgz2⟩ := HI0.out
  have hcz2_0 := cellS136_0 HGz2
  have hcz2_1 := cellS136_1 HGz2
  have hfz2_0 := blk_frozen HGz2 0
  have hfz2_1 := blk_frozen HGz2 1
  clear HGz2 hgz2
  go_enter Try.func75, Try.ntmps75
  go_wp2
  go_ret
  exact ⟨by first | rfl | (simp [errW_none, errW_some] <;> rfl) | (simp [*, errW_none, errW_some] <;> rfl), by repeat (first | (with_reducible first | exact HI0.out | apply IsS136.alloc | apply IsS136.drewN | apply IsS136.drew | apply IsS136.set_0 | apply IsS136.set_1) | exact HI0.out), by repeat (first | (with_reducible first | exact HB.out | apply below_alloc | apply pw_below_drewN | apply below_drew1 | refine below_set ?_ (IsS136.ge HI0.out)) | exact HB.out), by repeat (first | (with_reducible first | exact HK.out | apply KeepBut.set_ | apply keep_drewN | apply keep_drew | apply keep_alloc) | exact HK.out)⟩

/-! ### pack_Reader_fail: function 90 -/
def pack_Reader_fail.f (s0_0 : ByteArray) (s0_1 : Int) (a1 : Int) : Option (ByteArray × Int) := some ((⟨#[]⟩ : ByteArray), a1)
set_option maxHeartbeats 8000000 in
set_option maxRecDepth 100000 in
theorem pack_Reader_fail.calls (g : Nat) (s0_0 : ByteArray) (s0_1 : Int) (a1 : Int) (r1 : ByteArray) (r2 : Int) (w0 w : World) (hI : IsS136 w0 w g s0_0 s0_1) (hB : Below w0.heap.size w0 w) (h : pack_Reader_fail.f s0_0 s0_1 a1 = some (r1, r2)) :
    Calls Try.prog 90 #[.pointer (some ⟨g, 0, none⟩), .int .i64 a1] w fun e w' => e = .returned (.tuple #[]) ∧ IsS136 w0 w' g r1 r2 ∧ Below w0.heap.size w0 w' ∧ KeepBut w w' g none := by
  have HI0 := Aside0.mk hI
  have HK := Aside0.mk (KeepBut.refl w g none)
  have HL := Aside0.mk hB.size
  clear hI
  have HW0 := Aside0.mk hB.size
  have HB := Aside0.mk hB
  clear hB
  have H : (some ((⟨#[]⟩ : ByteArray), a1)) = some (r1, r2) := h
  clear h
  simp only [Option.some.injEq, Prod.mk.injEq] at H
  obtain ⟨rfl, rfl⟩ := H
  obtain ⟨HGz3, hgz3⟩ := HI0.out
  have hcz3_0 := cellS136_0 HGz3
  have hcz3_1 := cellS136_1 HGz3
  have hfz3_0 := blk_frozen HGz3 0
  have hfz3_1 := blk_frozen HGz3 1
  clear HGz3 hgz3
  go_enter Try.func90, Try.ntmps90
  go_wp2
  first | go_end0 | ((try simp only [Exit.inBlock, Exit.then]); refine bodyPost_ret (results_none rfl _ _ _) rfl ?_)
  exact ⟨by first | rfl | (simp [errW_none, errW_some] <;> rfl) | (simp [*, errW_none, errW_some] <;> rfl), by repeat (first | (with_reducible first | exact HI0.out | apply IsS136.alloc | apply IsS136.drewN | apply IsS136.drew | apply IsS136.set_0 | apply IsS136.set_1) | exact HI0.out), by repeat (first | (with_reducible first | exact HB.out | apply below_alloc | apply pw_below_drewN | apply below_drew1 | refine below_set ?_ (IsS136.ge HI0.out)) | exact HB.out), by repeat (first | (with_reducible first | exact HK.out | apply KeepBut.set_ | apply keep_drewN | apply keep_drew | apply keep_alloc) | exact HK.out)⟩

/-! ### pack_Reader_End: function 74 -/
def pack_Reader_End.f (s0_0 : ByteArray) (s0_1 : Int) : Option (Int × ByteArray × Int) := (pack_Reader_Err.f s0_0 s0_1).bind fun bt102 => (if bt102.1 = 0 then (if bt102.2.1.toList = ([] : List UInt8) then (some (bt102.1, bt102.2.1, bt102.2.2)) else (some (2, bt102.2.1, bt102.2.2))) else (some (bt102.1, bt102.2.1, bt102.2.2)))
set_option maxHeartbeats 8000000 in
set_option maxRecDepth 100000 in
theorem pack_Reader_End.calls (g : Nat) (s0_0 : ByteArray) (s0_1 : Int) (r1 : Int) (r2 : ByteArray) (r3 : Int) (w0 w : World) (hI : IsS136 w0 w g s0_0 s0_1) (hB : Below w0.heap.size w0 w) (h : pack_Reader_End.f s0_0 s0_1 = some (r1, r2, r3)) :
    Calls Try.prog 74 #[.pointer (some ⟨g, 0, none⟩)] w fun e w' => e = .returned (.int .i64 r1) ∧ IsS136 w0 w' g r2 r3 ∧ Below w0.heap.size w0 w' ∧ KeepBut w w' g none := by
  have HI0 := Aside0.mk hI
  have HK := Aside0.mk (KeepBut.refl w g none)
  have HL := Aside0.mk hB.size
  clear hI
  have HW0 := Aside0.mk hB.size
  have HB := Aside0.mk hB
  clear hB
  have H : ((pack_Reader_Err.f s0_0 s0_1).bind fun bt102 => (if bt102.1 = 0 then (if bt102.2.1.toList = ([] : List UInt8) then (some (bt102.1, bt102.2.1, bt102.2.2)) else (some (2, bt102.2.1, bt102.2.2))) else (some (bt102.1, bt102.2.1, bt102.2.2)))) = some (r1, r2, r3) := h
  clear h
  replace H := Option.bind_eq_some_iff.mp H
  obtain ⟨⟨t102, t103, t104⟩, A20, H⟩ := H
  replace H : (if t102 = 0 then (if t103.toList = ([] : List UInt8) then (some (t102, t103, t104)) else (some (2, t103, t104))) else (some (t102, t103, t104))) = some (r1, r2, r3) := H
  have A2 := Aside0.mk A20
  clear A20
  by_cases c3 : t102 = 0
  · rw [if_pos c3] at H
    have c3b0 : (t102 == 0) = true := beq_iff_eq.mpr c3
    have c3b1 : (t102 != 0) = false := bne_eq_false_iff_eq.mpr c3
    clear c3
    by_cases c4 : t103.toList = ([] : List UInt8)
    · rw [if_pos c4] at H
      have c4b0 : (t103.toList == ([] : List UInt8)) = true := beq_iff_eq.mpr c4
      have c4b1 : (t103.toList != ([] : List UInt8)) = false := bne_eq_false_iff_eq.mpr c4
      clear c4
      simp only [Option.some.injEq, Prod.mk.injEq] at H
      obtain ⟨rfl, rfl, rfl⟩ := H
      go_enter Try.func74, Try.ntmps74
      go_wp2_with (first | ((with_reducible refine gate_callee (f := 75) rfl ?_); refine goesL_ (some 5) rfl rfl Try.func75 (by kernel_rfl) rfl #[.pointer (some ⟨g, 0, none⟩)] rfl (by (try simp only [List.map_toArray, List.map_cons, List.map_nil]); first | done | rfl | (simp only [List.length_drop, List.length_take]; rfl)) ?_; (with_reducible refine (pack_Reader_Err.calls g s0_0 s0_1 t102 t103 t104 w0 _ ?side1 ?side2 A2.out).mono ?_); (case side1 => repeat (first | (with_reducible first | exact HI0.out | apply IsS136.alloc | apply IsS136.drewN | apply IsS136.drew | apply IsS136.set_0 | apply IsS136.set_1) | exact HI0.out)); (case side2 => repeat (first | (with_reducible first | exact HB.out | apply below_alloc | apply pw_below_drewN | apply below_drew1 | refine below_set ?_ (IsS136.ge HI0.out)) | exact HB.out)); rintro e w5 ⟨rfl, hi, hb, hk⟩; refine ⟨_, rfl, ?_⟩; have n0_ := Aside0.mk (KeepBut.trans (by repeat (first | (with_reducible first | exact HK.out | apply KeepBut.set_ | apply keep_drewN | apply keep_drew | apply keep_alloc) | exact HK.out)) hk (.inl rfl)); have n1_ := Aside0.mk (hb); have n2_ := Aside0.mk (hi); clear HK; clear HB; clear HI0; have HK := n0_; have HB := n1_; have HI0 := n2_; clear n0_ n1_ n2_; (try clear hb); (try clear hb2); (try clear hk); (try clear hi); obtain ⟨HGz6, hgz6⟩ := HI0.out; have hcz6_0 := cellS136_0 HGz6; have hcz6_1 := cellS136_1 HGz6; have hfz6_0 := blk_frozen HGz6 0; have hfz6_1 := blk_frozen HGz6 1; clear HGz6 hgz6))
      go_ret
      exact ⟨by first | rfl | (simp [errW_none, errW_some] <;> rfl) | (simp [*, errW_none, errW_some] <;> rfl), by repeat (first | (with_reducible first | exact HI0.out | apply IsS136.alloc | apply IsS136.drewN | apply IsS136.drew | apply IsS136.set_0 | apply IsS136.set_1) | exact HI0.out), by repeat (first | (with_reducible first | exact HB.out | apply below_alloc | apply pw_below_drewN | apply below_drew1 | refine below_set ?_ (IsS136.ge HI0.out)) | exact HB.out), by repeat (first | (with_reducible first | exact HK.out | apply KeepBut.set_ | apply keep_drewN | apply keep_drew | apply keep_alloc) | exact HK.out)⟩
    · rw [if_neg c4] at H
      have c4b0 : (t103.toList == ([] : List UInt8)) = false := beq_eq_false_iff_ne.mpr c4
      have c4b1 : (t103.toList != ([] : List UInt8)) = true := bne_iff_ne.mpr c4
      simp only [Option.some.injEq, Prod.mk.injEq] at H
      obtain ⟨rfl, rfl, rfl⟩ := H
      go_enter Try.func74, Try.ntmps74
      go_wp2_with (first | ((with_reducible refine gate_callee (f := 75) rfl ?_); refine goesL_ (some 5) rfl rfl Try.func75 (by kernel_rfl) rfl #[.pointer (some ⟨g, 0, none⟩)] rfl (by (try simp only [List.map_toArray, List.map_cons, List.map_nil]); first | done | rfl | (simp only [List.length_drop, List.length_take]; rfl)) ?_; (with_reducible refine (pack_Reader_Err.calls g s0_0 s0_1 t102 t103 t104 w0 _ ?side1 ?side2 A2.out).mono ?_); (case side1 => repeat (first | (with_reducible first | exact HI0.out | apply IsS136.alloc | apply IsS136.drewN | apply IsS136.drew | apply IsS136.set_0 | apply IsS136.set_1) | exact HI0.out)); (case side2 => repeat (first | (with_reducible first | exact HB.out | apply below_alloc | apply pw_below_drewN | apply below_drew1 | refine below_set ?_ (IsS136.ge HI0.out)) | exact HB.out)); rintro e w7 ⟨rfl, hi, hb, hk⟩; refine ⟨_, rfl, ?_⟩; have n0_ := Aside0.mk (KeepBut.trans (by repeat (first | (with_reducible first | exact HK.out | apply KeepBut.set_ | apply keep_drewN | apply keep_drew | apply keep_alloc) | exact HK.out)) hk (.inl rfl)); have n1_ := Aside0.mk (hb); have n2_ := Aside0.mk (hi); clear HK; clear HB; clear HI0; have HK := n0_; have HB := n1_; have HI0 := n2_; clear n0_ n1_ n2_; (try clear hb); (try clear hb2); (try clear hk); (try clear hi); obtain ⟨HGz8, hgz8⟩ := HI0.out; have hcz8_0 := cellS136_0 HGz8; have hcz8_1 := cellS136_1 HGz8; have hfz8_0 := blk_frozen HGz8 0; have hfz8_1 := blk_frozen HGz8 1; clear HGz8 hgz8))
      go_ret
      exact ⟨by first | rfl | (simp [errW_none, errW_some] <;> rfl) | (simp [*, errW_none, errW_some] <;> rfl), by repeat (first | (with_reducible first | exact HI0.out | apply IsS136.alloc | apply IsS136.drewN | apply IsS136.drew | apply IsS136.set_0 | apply IsS136.set_1) | exact HI0.out), by repeat (first | (with_reducible first | exact HB.out | apply below_alloc | apply pw_below_drewN | apply below_drew1 | refine below_set ?_ (IsS136.ge HI0.out)) | exact HB.out), by repeat (first | (with_reducible first | exact HK.out | apply KeepBut.set_ | apply keep_drewN | apply keep_drew | apply keep_alloc) | exact HK.out)⟩
  · rw [if_neg c3] at H
    have c3b0 : (t102 == 0) = false := beq_eq_false_iff_ne.mpr c3
    have c3b1 : (t102 != 0) = true := bne_iff_ne.mpr c3
    simp only [Option.some.injEq, Prod.mk.injEq] at H
    obtain ⟨rfl, rfl, rfl⟩ := H
    go_enter Try.func74, Try.ntmps74
    go_wp2_with (first | ((with_reducible refine gate_callee (f := 75) rfl ?_); refine goesL_ (some 5) rfl rfl Try.func75 (by kernel_rfl) rfl #[.pointer (some ⟨g, 0, none⟩)] rfl (by (try simp only [List.map_toArray, List.map_cons, List.map_nil]); first | done | rfl | (simp only [List.length_drop, List.length_take]; rfl)) ?_; (with_reducible refine (pack_Reader_Err.calls g s0_0 s0_1 t102 t103 t104 w0 _ ?side1 ?side2 A2.out).mono ?_); (case side1 => repeat (first | (with_reducible first | exact HI0.out | apply IsS136.alloc | apply IsS136.drewN | apply IsS136.drew | apply IsS136.set_0 | apply IsS136.set_1) | exact HI0.out)); (case side2 => repeat (first | (with_reducible first | exact HB.out | apply below_alloc | apply pw_below_drewN | apply below_drew1 | refine below_set ?_ (IsS136.ge HI0.out)) | exact HB.out)); rintro e w9 ⟨rfl, hi, hb, hk⟩; refine ⟨_, rfl, ?_⟩; have n0_ := Aside0.mk (KeepBut.trans (by repeat (first | (with_reducible first | exact HK.out | apply KeepBut.set_ | apply keep_drewN | apply keep_drew | apply keep_alloc) | exact HK.out)) hk (.inl rfl)); have n1_ := Aside0.mk (hb); have n2_ := Aside0.mk (hi); clear HK; clear HB; clear HI0; have HK := n0_; have HB := n1_; have HI0 := n2_; clear n0_ n1_ n2_; (try clear hb); (try clear hb2); (try clear hk); (try clear hi)))
    go_ret
    exact ⟨by first | rfl | (simp [errW_none, errW_some] <;> rfl) | (simp [*, errW_none, errW_some] <;> rfl), by repeat (first | (with_reducible first | exact HI0.out | apply IsS136.alloc | apply IsS136.drewN | apply IsS136.drew | apply IsS136.set_0 | apply IsS136.set_1) | exact HI0.out), by repeat (first | (with_reducible first | exact HB.out | apply below_alloc | apply pw_below_drewN | apply below_drew1 | refine below_set ?_ (IsS136.ge HI0.out)) | exact HB.out), by repeat (first | (with_reducible first | exact HK.out | apply KeepBut.set_ | apply keep_drewN | apply keep_drew | apply keep_alloc) | exact HK.out)⟩

/-! ### pack_Reader_Left: function 76 -/
def pack_Reader_Left.f (s0_0 : ByteArray) (s0_1 : Int) : Option (Int × ByteArray × Int) := some ((s0_0.size : Int), s0_0, s0_1)
set_option maxHeartbeats 8000000 in
set_option maxRecDepth 100000 in
theorem pack_Reader_Left.calls (g : Nat) (s0_0 : ByteArray) (s0_1 : Int) (r1 : Int) (r2 : ByteArray) (r3 : Int) (w0 w : World) (hI : IsS136 w0 w g s0_0 s0_1) (hB : Below w0.heap.size w0 w) (h : pack_Reader_Left.f s0_0 s0_1 = some (r1, r2, r3)) :
    Calls Try.prog 76 #[.pointer (some ⟨g, 0, none⟩)] w fun e w' => e = .returned (.int .i64 r1) ∧ IsS136 w0 w' g r2 r3 ∧ Below w0.heap.size w0 w' ∧ KeepBut w w' g none := by
  have HI0 := Aside0.mk hI
  have HK := Aside0.mk (KeepBut.refl w g none)
  have HL := Aside0.mk hB.size
  clear hI
  have HW0 := Aside0.mk hB.size
  have HB := Aside0.mk hB
  clear hB
  have H : (some ((s0_0.size : Int), s0_0, s0_1)) = some (r1, r2, r3) := h
  clear h
  simp only [Option.some.injEq, Prod.mk.injEq] at H
  obtain ⟨rfl, rfl, rfl⟩ := H
  obtain ⟨HGz2, hgz2⟩ := HI0.out
  have hcz2_0 := cellS136_0 HGz2
  have hcz2_1 := cellS136_1 HGz2
  have hfz2_0 := blk_frozen HGz2 0
  have hfz2_1 := blk_frozen HGz2 1
  clear HGz2 hgz2
  go_enter Try.func76, Try.ntmps76
  go_wp2
  go_ret
  exact ⟨by first | rfl | (simp [errW_none, errW_some] <;> rfl) | (simp [*, errW_none, errW_some] <;> rfl), by repeat (first | (with_reducible first | exact HI0.out | apply IsS136.alloc | apply IsS136.drewN | apply IsS136.drew | apply IsS136.set_0 | apply IsS136.set_1) | exact HI0.out), by repeat (first | (with_reducible first | exact HB.out | apply below_alloc | apply pw_below_drewN | apply below_drew1 | refine below_set ?_ (IsS136.ge HI0.out)) | exact HB.out), by repeat (first | (with_reducible first | exact HK.out | apply KeepBut.set_ | apply keep_drewN | apply keep_drew | apply keep_alloc) | exact HK.out)⟩

end Go.Proofs.Ytccdmedhkbabpaa.PRd
/- Plain words on bytes: numbers in the fewest bytes, texts as lists of numbers. No program in sight. -/
namespace Go.Proofs.Ytccdmedhkbabpaa
open Go.RowKit Go.Proofs.YtccdmedhkbabpaaW.PrintWords

def Bytes (xs : List Int) : Prop := ∀ x ∈ xs, 0 ≤ x ∧ x ≤ 255
theorem Bytes.append {xs ys : List Int} (h : Bytes xs) (k : Bytes ys) : Bytes (xs ++ ys) := fun x hx => (List.mem_append.1 hx).elim (h x) (k x)
theorem bytesOf_append (a b : ByteArray) : bytesOf (a ++ b) = bytesOf a ++ bytesOf b := by
  unfold bytesOf
  rw [ByteArray.data_append]; simp
theorem bytesOf_nums (xs : List Int) (h : Bytes xs) : bytesOf (strOfNums xs) = xs := by
  unfold bytesOf
  rw [strOfNums_data, List.map_map]
  conv => rhs; rw [← List.map_id xs]
  apply List.map_congr_left
  intro x hx
  have := h x hx
  simp
  omega
theorem size_nums (xs : List Int) : (strOfNums xs).size = xs.length := strOfNums_size xs
theorem map_inj {α β : Type} (f : α → β) (hf : ∀ a b, f a = f b → a = b) : ∀ l l' : List α, l.map f = l'.map f → l = l' := by
  intro l
  induction l with
  | nil => intro l' h; cases l' with
    | nil => rfl
    | cons => simp at h
  | cons a l ih => intro l' h; cases l' with
    | nil => simp at h
    | cons b l' =>
      simp only [List.map_cons, List.cons.injEq] at h
      rw [hf a b h.1, ih l' h.2]
theorem bytes_ext {a b : ByteArray} (h : bytesOf a = bytesOf b) : a = b := by
  have h2 : a.data.toList = b.data.toList := by
    unfold bytesOf at h
    refine map_inj _ ?_ _ _ h
    intro x y hxy
    have : x.toNat = y.toNat := by omega
    exact UInt8.toNat_inj.1 this
  have h3 : a.data = b.data := Array.toList_inj.1 h2
  cases a; cases b; simp_all
theorem bytesOf_bytes (s : ByteArray) : Bytes (bytesOf s) := by
  intro x hx
  unfold bytesOf at hx
  obtain ⟨b, _, rfl⟩ := List.mem_map.1 hx
  have := b.toNat_lt
  omega
theorem nums_bytesOf (s : ByteArray) : strOfNums (bytesOf s) = s := bytes_ext (bytesOf_nums _ (bytesOf_bytes s))
theorem strOfNums_append (xs ys : List Int) : strOfNums (xs ++ ys) = strOfNums xs ++ strOfNums ys := by
  cases h : strOfNums (xs ++ ys) with
  | mk d =>
    have : d = (strOfNums xs ++ strOfNums ys).data := by
      rw [ByteArray.data_append]
      have h2 : d = (strOfNums (xs ++ ys)).data := by rw [h]
      rw [h2]
      simp [strOfNums]
    rw [this]

/-! ### How many bytes a number wants -/
theorem bitLenAux_lt (f : Nat) : ∀ (x m : Nat), m ≤ f → x < 2 ^ m → Lib.bitLenAux f x ≤ m := by
  induction f with
  | zero => intro x m hm h; simp [Lib.bitLenAux]
  | succ f ih =>
    intro x m hm h
    simp only [Lib.bitLenAux]
    split
    · omega
    · rename_i hx
      obtain ⟨m, rfl⟩ : ∃ q, m = q + 1 := ⟨m - 1, by
        rcases m with _ | m
        · simp at h; omega
        · rfl⟩
      have := ih (x / 2) m (by omega) (by rw [Nat.pow_succ] at h; omega)
      omega
theorem bitLenAux_ge (f : Nat) : ∀ (x m : Nat), x < 2 ^ f → 2 ^ m ≤ x → m + 1 ≤ Lib.bitLenAux f x := by
  induction f with
  | zero => intro x m hf h; have := Nat.two_pow_pos m; simp at hf; omega
  | succ f ih =>
    intro x m hf h
    simp only [Lib.bitLenAux]
    have h0 := Nat.two_pow_pos m
    rw [if_neg (by omega)]
    rcases m with _ | m
    · omega
    · have := ih (x / 2) m (by rw [Nat.pow_succ] at hf; omega) (by rw [Nat.pow_succ] at h; omega)
      omega
theorem bitLen_le {x m : Nat} (hm : m ≤ 64) (h : x < 2 ^ m) : Lib.bitLen x ≤ m := bitLenAux_lt 64 x m hm h
theorem bitLen_ge {x m : Nat} (h64 : x < 2 ^ 64) (h : 2 ^ m ≤ x) : m + 1 ≤ Lib.bitLen x := bitLenAux_ge 64 x m h64 h
/-- How many bytes. -/
def byteLen (x : Nat) : Nat := (Lib.bitLen x + 7) / 8
theorem pow256 (k : Nat) : 256 ^ k = 2 ^ (8 * k) := by rw [show 256 = 2 ^ 8 from rfl, ← Nat.pow_mul]
theorem byteLen_le {x k : Nat} (hk : k ≤ 8) (h : x < 256 ^ k) : byteLen x ≤ k := by
  rw [pow256] at h
  have := bitLen_le (by omega) h
  unfold byteLen; omega
theorem byteLen_ge {x k : Nat} (h64 : x < 2 ^ 64) (h : 256 ^ k ≤ x) : k + 1 ≤ byteLen x := by
  rw [pow256] at h
  have := bitLen_ge h64 h
  unfold byteLen; omega
theorem byteLen_range {x : Nat} (h64 : x < 2 ^ 64) (h : 1 ≤ x) : 1 ≤ byteLen x ∧ byteLen x ≤ 8 :=
  ⟨byteLen_ge (k := 0) h64 (by simpa using h), byteLen_le (Nat.le_refl _) h64⟩
theorem byteLen_eq {x k : Nat} (hk : k + 1 ≤ 8) (h1 : 256 ^ k ≤ x) (h2 : x < 256 ^ (k + 1)) : byteLen x = k + 1 := by
  have h64 : x < 2 ^ 64 := by
    have : 256 ^ (k + 1) ≤ 256 ^ 8 := Nat.pow_le_pow_right (by omega) hk
    have e : (256 : Nat) ^ 8 = 2 ^ 64 := by decide
    omega
  have := byteLen_ge h64 h1
  have := byteLen_le hk h2
  omega
theorem byteLen_lt {x : Nat} (h64 : x < 2 ^ 64) (h : 1 ≤ x) : x < 256 ^ byteLen x ∧ 256 ^ (byteLen x - 1) ≤ x := by
  obtain ⟨h1, h2⟩ := byteLen_range h64 h
  constructor
  · rcases Nat.lt_or_ge x (256 ^ byteLen x) with h | h
    · exact h
    · have := byteLen_ge h64 h; omega
  · rcases Nat.lt_or_ge x (256 ^ (byteLen x - 1)) with h | h
    · have := byteLen_le (by omega) h; omega
    · exact h

/-- The first c of x's k bytes, the greatest first. -/
def beTo (k x c : Nat) : List Int := (List.range c).map fun j => ((x / 256 ^ (k - 1 - j) % 256 : Nat) : Int)
theorem beTo_length (k x c : Nat) : (beTo k x c).length = c := by simp [beTo]
theorem beTo_succ (k x c : Nat) : beTo k x (c + 1) = beTo k x c ++ [((x / 256 ^ (k - 1 - c) % 256 : Nat) : Int)] := by simp [beTo, List.range_succ]
theorem beTo_bytes (k x c : Nat) : Bytes (beTo k x c) := by
  intro y hy
  unfold beTo at hy
  obtain ⟨j, _, rfl⟩ := List.mem_map.1 hy
  omega
/-- A number's bytes. -/
def encN (n : Int) : List Int := if n < 248 then [n] else (247 + (byteLen n.toNat : Int)) :: beTo (byteLen n.toNat) n.toNat (byteLen n.toNat)
theorem encN_bytes {n : Int} (h0 : 0 ≤ n) (h1 : n ≤ 18446744073709551615) : Bytes (encN n) := by
  unfold encN
  split
  · intro x hx; simp at hx; omega
  · have := byteLen_range (x := n.toNat) (by omega) (by omega)
    intro x hx
    rcases List.mem_cons.1 hx with rfl | hx
    · omega
    · exact beTo_bytes _ _ _ x hx
theorem encN_length {n : Int} (h1 : n ≤ 18446744073709551615) : 1 ≤ (encN n).length ∧ (encN n).length ≤ 9 := by
  unfold encN
  split
  · simp
  · have := byteLen_range (x := n.toNat) (by omega) (by omega)
    simp [beTo_length]; omega
/-- The same as a text. -/
def encB (n : Int) : ByteArray := strOfNums (encN n)
theorem encB_size {n : Int} (h1 : n ≤ 18446744073709551615) : 1 ≤ (encB n).size ∧ (encB n).size ≤ 9 := by
  unfold encB
  rw [size_nums]
  exact encN_length h1
end Go.Proofs.Ytccdmedhkbabpaa
/- A scope through which the run goes by several labels: what holds at each jump, and a measure that each pass lowers. Over any program. -/
namespace Go.Proofs.Ytccdmedhkbabpaa

/-- As Q; by a goto to label l: J l. -/
def jumps (J : Nat → Act → World → Prop) (Q : Exit → Act → World → Prop) : Exit → Act → World → Prop
  | .goto l, a, w => J l a w
  | e, a, w => Q e a w
section
variable {P : Program} {a : Act} {w : World} {Q : Exit → Act → World → Prop}
theorem jumps_ret (J : Nat → Act → World → Prop) : jumps J Q .ret a w = Q .ret a w := rfl
theorem wp_scope_many {c : Code} (J : Nat → Nat → Act → World → Prop)
    (first : c.wp P (jumps (fun l a w => ∃ n, J n l a w) Q) a w)
    (pass : ∀ n l a w, J n l a w → ∃ r, findLabel c l = some r ∧ r.wp P (jumps (fun l a w => ∃ m, m < n ∧ J m l a w) Q) a w) : (Code.scope c).wp P Q a w := by
  intro b k cs
  have key : ∀ n l a w, J n l a w → ∃ rest, gotoIn l (.inScope c :: k) = some (.code rest :: .inScope c :: k) ∧ ∃ e a' w', Q e a' w' ∧ Arrives P (lone (b.at a (.code rest :: .inScope c :: k)) cs w) b k cs e a' w' := by
    intro n
    induction n using Nat.strongRecOn with
    | _ n ih =>
      intro l a w hJ
      obtain ⟨rest, hf, hw⟩ := pass n l a w hJ
      have hg : gotoIn l (.inScope c :: k) = some (.code rest :: .inScope c :: k) := by simp [gotoIn, hf]
      refine ⟨rest, hg, ?_⟩
      obtain ⟨e, a₁, w₁, hq, harr⟩ := hw b (.inScope c :: k) cs
      cases e with
      | normal => exact ⟨.normal, a₁, w₁, hq, Steps.trans harr (.one step_inScope)⟩
      | exit id => exact ⟨.exit id, a₁, w₁, hq, fun k' hk => harr k' (by simp [exitTo, hk])⟩
      | goto l' =>
        obtain ⟨m, hlt, hJ'⟩ := hq
        obtain ⟨rest', hg', e₂, a₂, w₂, hq₂, harr₂⟩ := ih m hlt l' a₁ w₁ hJ'
        exact ⟨e₂, a₂, w₂, hq₂, .of_steps (harr _ hg') harr₂⟩
      | ret => exact ⟨_, a₁, w₁, hq, harr⟩
      | panic ch => exact ⟨_, a₁, w₁, hq, harr⟩
      | outgrown => exact ⟨_, a₁, w₁, hq, harr⟩
  obtain ⟨e, a₁, w₁, hq, harr⟩ := first b (.inScope c :: k) cs
  cases e with
  | normal => exact ⟨.normal, a₁, w₁, hq, .head step_scope (Steps.trans harr (.one step_inScope))⟩
  | exit id => exact ⟨.exit id, a₁, w₁, hq, fun k' hk => .head step_scope (harr k' (by simp [exitTo, hk]))⟩
  | goto l' =>
    obtain ⟨n, hJ'⟩ := hq
    obtain ⟨rest', hg', e₂, a₂, w₂, hq₂, harr₂⟩ := key n l' a₁ w₁ hJ'
    exact ⟨e₂, a₂, w₂, hq₂, .of_steps (.head step_scope (harr _ hg')) harr₂⟩
  | ret => exact ⟨_, a₁, w₁, hq, .of_steps (.one step_scope) harr⟩
  | panic ch => exact ⟨_, a₁, w₁, hq, .of_steps (.one step_scope) harr⟩
  | outgrown => exact ⟨_, a₁, w₁, hq, .of_steps (.one step_scope) harr⟩
end
end Go.Proofs.Ytccdmedhkbabpaa
/- pack.Reader's Number: read with labels and gotos. Conditions: those that the theorem names. -/
namespace Go.Proofs.Ytccdmedhkbabpaa
open Go.RowKit Go.Proofs.YtccdmedhkbabpaaW.PrintWords PRd

/-- The number of the c bytes behind the first. -/
def beVal (s : ByteArray) : Nat → Nat
  | 0 => 0
  | c + 1 => beVal s c * 256 + (bt s ((c + 1 : Nat) : Int)).toNat
theorem beVal_lt (s : ByteArray) (c : Nat) : beVal s c < 256 ^ c := by
  induction c with
  | zero => simp [beVal]
  | succ c ih =>
    have := bt_range s ((c + 1 : Nat) : Int)
    simp only [beVal, Nat.pow_succ]
    omega
def numFin (s : ByteArray) (most v : Int) (sz : Nat) : Int × ByteArray × Int := if v ≤ most then (v, s.extract sz s.size, 0) else (0, ByteArray.empty, 3)
def numBig (s : ByteArray) (most : Int) (k : Nat) : Int × ByteArray × Int := if beVal s k < 248 ∨ byteLen (beVal s k) ≠ k then (0, ByteArray.empty, 2) else numFin s most (beVal s k) (k + 1)
/-- What is read: the number, what is left, the error. -/
def numR (s : ByteArray) (most : Int) : Int × ByteArray × Int :=
  if s.size = 0 then (0, ByteArray.empty, 4)
  else if bt s 0 < 248 then numFin s most (bt s 0) 1
  else if s.size ≤ (bt s 0 - 247).toNat then (0, ByteArray.empty, 4)
  else numBig s most (bt s 0 - 247).toNat

/-- What holds at a jump to 'bad'. -/
def NumJ0 (g : Nat) (s : ByteArray) (most : Int) (w : World) (a : Act) (w' : World) : Prop := ∃ (code : Int) (u : Nat → Value), a = { tmps := #[.pointer (some ⟨g, 0, none⟩), .int .u64 most, u 2, u 3, .int .u64 0, u 5, .int .i64 code, u 7, u 8, u 9, u 10, u 11, u 12, u 13, u 14, u 15, u 16, u 17, u 18, u 19, u 20, u 21, u 22, u 23, u 24, u 25, u 26, u 27, u 28, u 29, u 30, u 31, u 32, u 33, u 34, u 35, u 36, u 37, u 38, u 39, u 40, u 41, u 42, u 43, u 44, u 45, u 46, u 47, u 48, u 49, u 50, u 51, u 52, u 53, u 54, u 55, u 56, u 57, u 58, u 59, u 60, u 61, u 62, u 63, u 64, u 65, u 66, u 67, u 68, u 69, u 70, u 71, u 72, u 73, u 74, u 75, u 76, u 77, u 78, u 79, u 80, u 81], defers := [] } ∧ Aside0 (numR s most = (0, ByteArray.empty, code)) ∧ Drawn0 w w'
/-- What holds at a jump to 'whole'. -/
def NumJ1 (g : Nat) (s : ByteArray) (most : Int) (w : World) (a : Act) (w' : World) : Prop := ∃ (v : Int) (sz : Nat) (u : Nat → Value), a = { tmps := #[.pointer (some ⟨g, 0, none⟩), .int .u64 most, u 2, u 3, .int .u64 0, .int .u64 v, u 6, .int .i64 (sz : Int), u 8, u 9, u 10, u 11, u 12, u 13, u 14, u 15, u 16, u 17, u 18, u 19, u 20, u 21, u 22, u 23, u 24, u 25, u 26, u 27, u 28, u 29, u 30, u 31, u 32, u 33, u 34, u 35, u 36, u 37, u 38, u 39, u 40, u 41, u 42, u 43, u 44, u 45, u 46, u 47, u 48, u 49, u 50, u 51, u 52, u 53, u 54, u 55, u 56, u 57, u 58, u 59, u 60, u 61, u 62, u 63, u 64, u 65, u 66, u 67, u 68, u 69, u 70, u 71, u 72, u 73, u 74, u 75, u 76, u 77, u 78, u 79, u 80, u 81], defers := [] } ∧ Aside0 (numR s most = numFin s most v sz ∧ 0 ≤ v ∧ v ≤ 18446744073709551615 ∧ sz ≤ s.size ∧ 1 ≤ sz) ∧ Drawn0 w w'
/-- What holds at a jump to 'next', n more rounds to go at the most. -/
def NumJ2 (g : Nat) (s : ByteArray) (most : Int) (w : World) (n : Nat) (a : Act) (w' : World) : Prop := ∃ (c k : Nat) (u : Nat → Value), a = { tmps := #[.pointer (some ⟨g, 0, none⟩), .int .u64 most, u 2, u 3, .int .u64 0, .int .u64 (beVal s c : Int), u 6, .int .i64 ((c : Int) + 1), .int .i64 (k : Int), u 9, u 10, u 11, u 12, u 13, u 14, u 15, u 16, u 17, u 18, u 19, u 20, u 21, u 22, u 23, u 24, u 25, u 26, u 27, u 28, u 29, u 30, u 31, u 32, u 33, u 34, u 35, u 36, u 37, u 38, u 39, u 40, u 41, u 42, u 43, u 44, u 45, u 46, u 47, u 48, u 49, u 50, u 51, u 52, u 53, u 54, u 55, u 56, u 57, u 58, u 59, u 60, u 61, u 62, u 63, u 64, u 65, u 66, u 67, u 68, u 69, u 70, u 71, u 72, u 73, u 74, u 75, u 76, u 77, u 78, u 79, u 80, u 81], defers := [] } ∧ Aside0 (numR s most = numBig s most k ∧ k ≤ 8 ∧ k < s.size ∧ c + n + 1 = k) ∧ Drawn0 w w'
theorem NumJ0.mk {g : Nat} {s : ByteArray} {most : Int} {w : World} (code : Int) {u2 u3 u5 u7 u8 u9 u10 u11 u12 u13 u14 u15 u16 u17 u18 u19 u20 u21 u22 u23 u24 u25 u26 u27 u28 u29 u30 u31 u32 u33 u34 u35 u36 u37 u38 u39 u40 u41 u42 u43 u44 u45 u46 u47 u48 u49 u50 u51 u52 u53 u54 u55 u56 u57 u58 u59 u60 u61 u62 u63 u64 u65 u66 u67 u68 u69 u70 u71 u72 u73 u74 u75 u76 u77 u78 u79 u80 u81 : Value} {w' : World} (h2 : Aside0 (numR s most = (0, ByteArray.empty, code))) (h3 : Drawn0 w w') : NumJ0 g s most w { tmps := #[.pointer (some ⟨g, 0, none⟩), .int .u64 most, u2, u3, .int .u64 0, u5, .int .i64 code, u7, u8, u9, u10, u11, u12, u13, u14, u15, u16, u17, u18, u19, u20, u21, u22, u23, u24, u25, u26, u27, u28, u29, u30, u31, u32, u33, u34, u35, u36, u37, u38, u39, u40, u41, u42, u43, u44, u45, u46, u47, u48, u49, u50, u51, u52, u53, u54, u55, u56, u57, u58, u59, u60, u61, u62, u63, u64, u65, u66, u67, u68, u69, u70, u71, u72, u73, u74, u75, u76, u77, u78, u79, u80, u81], defers := [] } w' :=
  ⟨code, fun i => ([.bool false, .bool false, u2, u3, .bool false, u5, .bool false, u7, u8, u9, u10, u11, u12, u13, u14, u15, u16, u17, u18, u19, u20, u21, u22, u23, u24, u25, u26, u27, u28, u29, u30, u31, u32, u33, u34, u35, u36, u37, u38, u39, u40, u41, u42, u43, u44, u45, u46, u47, u48, u49, u50, u51, u52, u53, u54, u55, u56, u57, u58, u59, u60, u61, u62, u63, u64, u65, u66, u67, u68, u69, u70, u71, u72, u73, u74, u75, u76, u77, u78, u79, u80, u81] : List Value).getD i (.bool false), rfl, h2, h3⟩
theorem NumJ1.mk {g : Nat} {s : ByteArray} {most : Int} {w : World} (v : Int) (sz : Nat) {u2 u3 u6 u8 u9 u10 u11 u12 u13 u14 u15 u16 u17 u18 u19 u20 u21 u22 u23 u24 u25 u26 u27 u28 u29 u30 u31 u32 u33 u34 u35 u36 u37 u38 u39 u40 u41 u42 u43 u44 u45 u46 u47 u48 u49 u50 u51 u52 u53 u54 u55 u56 u57 u58 u59 u60 u61 u62 u63 u64 u65 u66 u67 u68 u69 u70 u71 u72 u73 u74 u75 u76 u77 u78 u79 u80 u81 : Value} {w' : World} (h2 : Aside0 (numR s most = numFin s most v sz ∧ 0 ≤ v ∧ v ≤ 18446744073709551615 ∧ sz ≤ s.size ∧ 1 ≤ sz)) (h3 : Drawn0 w w') : NumJ1 g s most w { tmps := #[.pointer (some ⟨g, 0, none⟩), .int .u64 most, u2, u3, .int .u64 0, .int .u64 v, u6, .int .i64 (sz : Int), u8, u9, u10, u11, u12, u13, u14, u15, u16, u17, u18, u19, u20, u21, u22, u23, u24, u25, u26, u27, u28, u29, u30, u31, u32, u33, u34, u35, u36, u37, u38, u39, u40, u41, u42, u43, u44, u45, u46, u47, u48, u49, u50, u51, u52, u53, u54, u55, u56, u57, u58, u59, u60, u61, u62, u63, u64, u65, u66, u67, u68, u69, u70, u71, u72, u73, u74, u75, u76, u77, u78, u79, u80, u81], defers := [] } w' :=
  ⟨v, sz, fun i => ([.bool false, .bool false, u2, u3, .bool false, .bool false, u6, .bool false, u8, u9, u10, u11, u12, u13, u14, u15, u16, u17, u18, u19, u20, u21, u22, u23, u24, u25, u26, u27, u28, u29, u30, u31, u32, u33, u34, u35, u36, u37, u38, u39, u40, u41, u42, u43, u44, u45, u46, u47, u48, u49, u50, u51, u52, u53, u54, u55, u56, u57, u58, u59, u60, u61, u62, u63, u64, u65, u66, u67, u68, u69, u70, u71, u72, u73, u74, u75, u76, u77, u78, u79, u80, u81] : List Value).getD i (.bool false), rfl, h2, h3⟩
theorem NumJ2.mk {g : Nat} {s : ByteArray} {most : Int} {w : World} {n : Nat} (c k : Nat) {u2 u3 u6 u9 u10 u11 u12 u13 u14 u15 u16 u17 u18 u19 u20 u21 u22 u23 u24 u25 u26 u27 u28 u29 u30 u31 u32 u33 u34 u35 u36 u37 u38 u39 u40 u41 u42 u43 u44 u45 u46 u47 u48 u49 u50 u51 u52 u53 u54 u55 u56 u57 u58 u59 u60 u61 u62 u63 u64 u65 u66 u67 u68 u69 u70 u71 u72 u73 u74 u75 u76 u77 u78 u79 u80 u81 : Value} {w' : World} (h2 : Aside0 (numR s most = numBig s most k ∧ k ≤ 8 ∧ k < s.size ∧ c + n + 1 = k)) (h3 : Drawn0 w w') : NumJ2 g s most w n { tmps := #[.pointer (some ⟨g, 0, none⟩), .int .u64 most, u2, u3, .int .u64 0, .int .u64 (beVal s c : Int), u6, .int .i64 ((c : Int) + 1), .int .i64 (k : Int), u9, u10, u11, u12, u13, u14, u15, u16, u17, u18, u19, u20, u21, u22, u23, u24, u25, u26, u27, u28, u29, u30, u31, u32, u33, u34, u35, u36, u37, u38, u39, u40, u41, u42, u43, u44, u45, u46, u47, u48, u49, u50, u51, u52, u53, u54, u55, u56, u57, u58, u59, u60, u61, u62, u63, u64, u65, u66, u67, u68, u69, u70, u71, u72, u73, u74, u75, u76, u77, u78, u79, u80, u81], defers := [] } w' :=
  ⟨c, k, fun i => ([.bool false, .bool false, u2, u3, .bool false, .bool false, u6, .bool false, .bool false, u9, u10, u11, u12, u13, u14, u15, u16, u17, u18, u19, u20, u21, u22, u23, u24, u25, u26, u27, u28, u29, u30, u31, u32, u33, u34, u35, u36, u37, u38, u39, u40, u41, u42, u43, u44, u45, u46, u47, u48, u49, u50, u51, u52, u53, u54, u55, u56, u57, u58, u59, u60, u61, u62, u63, u64, u65, u66, u67, u68, u69, u70, u71, u72, u73, u74, u75, u76, u77, u78, u79, u80, u81] : List Value).getD i (.bool false), rfl, h2, h3⟩
/-- What holds at a jump. -/
def NumJ (g : Nat) (s : ByteArray) (most : Int) (w : World) (n l : Nat) (a : Act) (w' : World) : Prop :=
  (n = 0 ∧ l = 0 ∧ NumJ0 g s most w a w') ∨ (n = 1 ∧ l = 1 ∧ NumJ1 g s most w a w') ∨ (∃ m, n = m + 2 ∧ l = 2 ∧ NumJ2 g s most w m a w')

theorem or_byte (v b : Nat) (hv : v < 72057594037927936) (hb : b < 256) : bits .or .u64 (v * 256 : Nat) (b : Int) = ((v * 256 + b : Nat) : Int) := by
  show IntKind.u64.wrap ((BitVec.ofInt 64 ((v * 256 : Nat) : Int) ||| BitVec.ofInt 64 (b : Int)).toNat : Int) = _
  rw [BitVec.ofInt_natCast, BitVec.ofInt_natCast, BitVec.toNat_or, BitVec.toNat_ofNat, BitVec.toNat_ofNat, Nat.mod_eq_of_lt (by omega), Nat.mod_eq_of_lt (by omega)]
  have e : v * 256 ||| b = v * 256 + b := by
    have := Nat.two_pow_add_eq_or_of_lt (i := 8) (b := b) (by omega) v
    rw [Nat.mul_comm v 256]
    exact this.symm
  rw [e]
  have e2 : IntKind.u64.wrap ((v * 256 + b : Nat) : Int) = ((v * 256 + b : Nat) : Int) % 18446744073709551616 := rfl
  rw [e2]
  omega

theorem fin_store {w0 w : World} {g : Nat} {s : ByteArray} (hI : IsS136 w0 w g s 0) (hB : Below w0.heap.size w0 w) (m : Nat) (x : ByteArray) :
    IsS136 w0 ((w.drewN m).setCell ⟨g, 0, none⟩ (.string x)) g x 0 ∧ Below w0.heap.size w0 ((w.drewN m).setCell ⟨g, 0, none⟩ (.string x)) ∧ KeepBut w ((w.drewN m).setCell ⟨g, 0, none⟩ (.string x)) g none :=
  ⟨(IsS136.drewN hI m).set_0 x, (pw_below_drewN hB m).setCell (IsS136.ge hI) _, KeepBut.set_ (w1 := w.drewN m) ⟨Nat.le_refl _, fun _ _ _ _ => rfl⟩ 0 _⟩
set_option maxRecDepth 100000 in
set_option maxHeartbeats 8000000 in
theorem rnum (w0 w : World) (g : Nat) (s : ByteArray) (most : Int) (hm0 : 0 ≤ most) (hm1 : most ≤ 18446744073709551615) (hI : IsS136 w0 w g s 0) (hB : Below w0.heap.size w0 w) :
    Calls Try.prog 73 #[.pointer (some ⟨g, 0, none⟩), .int .u64 most] w fun e w' => e = .returned (.int .u64 (numR s most).1) ∧ IsS136 w0 w' g (numR s most).2.1 (numR s most).2.2 ∧ Below w0.heap.size w0 w' ∧ KeepBut w w' g none := by
  have HI := Lib.hid hI
  have HB := Lib.hid hB
  have HF : Hid (∀ m code, Calls Try.prog 90 #[.pointer (some ⟨g, 0, none⟩), .int .i64 code] (w.drewN m) fun e w' => e = .returned (.tuple #[]) ∧ IsS136 w0 w' g ByteArray.empty code ∧ Below w0.heap.size w0 w' ∧ KeepBut w w' g none) := by
    intro m code
    refine (pack_Reader_fail.calls g s 0 code ByteArray.empty code w0 (w.drewN m) (IsS136.drewN hI m) (pw_below_drewN hB m) rfl).mono fun e w' h => ?_
    obtain ⟨h1, h2, h3, h4⟩ := h
    exact ⟨h1, h2, h3, ⟨h4.1, h4.2⟩⟩
  have hb := hI.1
  have c0 := cellS136_0 hb
  have c1 := cellS136_1 hb
  have f0 := blk_frozen hb 0
  have f1 := blk_frozen hb 1
  clear hI hB hb
  go_enter Try.func73, Try.ntmps73
  go_wp2
  refine wp_scope_many (NumJ g s most w) ?first ?pass
  case first =>
    rcases (show s.size = 0 ∨ 1 ≤ s.size by omega) with h0 | h0
    · have hs : (s.toList == []) = true := by
        have : s.toList.length = s.size := by rw [ByteArray.toList_eq, data_length]
        rw [List.eq_nil_of_length_eq_zero (this.trans h0)]; rfl
      have Hr : Hid (numR s most = (0, ByteArray.empty, 4)) := by unfold numR; rw [if_pos h0]; rfl
      clear h0
      go_wp2
      go_step3
      show ∃ n, NumJ g s most w n 0 _ _
      exact ⟨0, .inl ⟨rfl, rfl, NumJ0.mk 4 ⟨Hr.out⟩ (Drawn0.refl _)⟩⟩
    · have hs : (s.toList == []) = false := by
        have : s.toList.length = s.size := by rw [ByteArray.toList_eq, data_length]
        cases h' : s.toList with
        | nil => rw [h'] at this; simp at this; omega
        | cons a l => rfl
      have hx5 : ∀ h : 0 < s.size, ((s[0]'h).toNat : Int) = bt s 0 := bt_at s 0
      have hp : (0 : Int) < s.size := by omega
      have hr := bt_range s 0
      obtain ⟨hr0, hr1⟩ := hr
      have Hdef : Hid (numR s most = if bt s 0 < 248 then numFin s most (bt s 0) 1 else if s.size ≤ (bt s 0 - 247).toNat then (0, ByteArray.empty, 4) else numBig s most (bt s 0 - 247).toNat) := by
        show _ = _
        conv => lhs; unfold numR
        rw [if_neg (by omega)]
      rcases (show bt s 0 < 248 ∨ 248 ≤ bt s 0 by omega) with hc | hc
      · have Hr : Hid (numR s most = numFin s most (bt s 0) 1) := by have := Hdef.out; rw [if_pos hc] at this; exact this
        clear Hdef
        generalize bt s 0 = b at *
        go_wp2
        go_step3
        show ∃ n, NumJ g s most w n 1 _ _
        exact ⟨1, .inr (.inl ⟨rfl, rfl, NumJ1.mk b 1 ⟨Hr.out, by omega, by omega, by omega, by omega⟩ (Drawn0.refl _)⟩)⟩
      · obtain ⟨k, hk⟩ : ∃ k : Nat, (k : Int) = bt s 0 - 247 := ⟨(bt s 0 - 247).toNat, by omega⟩
        have hk8 : k ≤ 8 := by omega
        have hk1 : 1 ≤ k := by omega
        have hbk : bt s 0 = 247 + (k : Int) := by omega
        have Hdef2 : Hid (numR s most = if s.size ≤ k then (0, ByteArray.empty, 4) else numBig s most k) := by
          have := Hdef.out
          rw [if_neg (by omega), show (bt s 0 - 247).toNat = k by omega] at this
          exact this
        have hx6 : ∀ h : 0 < s.size, ((s[0]'h).toNat : Int) = 247 + (k : Int) := fun h => by rw [hx5 h, hbk]
        clear Hdef hx5 hr0 hr1 hc hk hbk
        rcases (show s.size ≤ k ∨ k < s.size by omega) with hl | hl
        · have Hr : Hid (numR s most = (0, ByteArray.empty, 4)) := by have := Hdef2.out; rw [if_pos hl] at this; exact this
          clear Hdef2
          go_wp2
          go_step3
          show ∃ n, NumJ g s most w n 0 _ _
          exact ⟨0, .inl ⟨rfl, rfl, NumJ0.mk 4 ⟨Hr.out⟩ (Drawn0.refl _)⟩⟩
        · have Hr : Hid (numR s most = numBig s most k) := by have := Hdef2.out; rw [if_neg (by omega)] at this; exact this
          clear Hdef2
          go_wp2
          go_step3
          have hbr := bt_range s ((1 : Nat) : Int)
          obtain ⟨b, hb⟩ : ∃ b : Nat, (b : Int) = bt s ((1 : Nat) : Int) := ⟨(bt s ((1 : Nat) : Int)).toNat, by omega⟩
          have hb256 : b < 256 := by omega
          have hx7 : ∀ h : 1 < s.size, ((s[1]'h).toNat : Int) = (b : Int) := fun h => by rw [hb]; exact bt_at s ((1 : Nat) : Int) h
          have HV : Hid (beVal s 1 = b) := by show _ = _; simp only [beVal]; rw [← hb]; simp
          have hor := or_byte 0 b (by omega) hb256
          have hor2 : bits .or .u64 0 (b : Int) = (b : Int) := by simpa using hor
          have hcs : (1 : Int) < s.size := by omega
          clear hbr hb hor
          rcases (show 1 < k ∨ k = 1 by omega) with hlt | hlt
          · have hcc : Hid ((b : Int) = (beVal s 1 : Int)) := by show _ = _; rw [HV.out]
            go_wp2
            go_step3
            rw [hcc.out, show (247 + (k : Int) - 247) = (k : Int) by omega]
            show ∃ m2, NumJ g s most w m2 2 _ _
            obtain ⟨m', hm'⟩ : ∃ m', 1 + m' + 1 = k := ⟨k - 2, by omega⟩
            exact ⟨m' + 2, .inr (.inr ⟨m', rfl, rfl, NumJ2.mk 1 k ⟨Hr.out, hk8, hl, hm'⟩ (by repeat (first | exact Drawn0.refl _ | apply Drawn0.step))⟩)⟩
          · subst hlt
            obtain ⟨V2, hV2⟩ : ∃ V2 : Nat, V2 = b := ⟨_, rfl⟩
            have hW : beVal s 1 = b := HV.out
            have Hb2 : Hid (numR s most = if b < 248 ∨ byteLen b ≠ 1 then (0, ByteArray.empty, 2) else numFin s most (b : Int) (1 + 1)) := by
              have := Hr.out
              unfold numBig at this
              rw [hW] at this
              exact this
            have hL : Hid (∀ w, Calls Try.prog 80 #[.int .u64 (b : Int)] w fun e w' => e = .returned (.int .i64 (Lib.bitLen b)) ∧ w = w') := fun w => (Try.bits_Len64 (b : Int) w (by omega) (by omega)).mono fun _ _ ⟨a, b⟩ => ⟨by simpa using a, b.symm⟩
            have hkb := bitLen_le (x := b) (m := 64) (Nat.le_refl _) (by omega)
            have hlen : Hid ((Lib.bitLen b + 7) / 8 = byteLen b) := rfl
            generalize Lib.bitLen b = L at *
            clear hV2 hW Hr HV
            rcases (show b < 248 ∨ 248 ≤ b by omega) with hsm | hsm
            · have HR : Hid (numR s most = (0, ByteArray.empty, 2)) := by have := Hb2.out; rw [if_pos (.inl hsm)] at this; exact this
              clear Hb2
              go_wp2
              go_step3
              show ∃ m2, NumJ g s most w m2 0 _ _
              exact ⟨0, .inl ⟨rfl, rfl, NumJ0.mk 2 ⟨HR.out⟩ (by repeat (first | exact Drawn0.refl _ | apply Drawn0.step))⟩⟩
            · by_cases hne : byteLen b = 1
              · have HR0 : Hid (numR s most = numFin s most (b : Int) (1 + 1)) := by have := Hb2.out; rw [if_neg (by omega)] at this; exact this
                have hq : ((L : Int) + 7) / 8 = 1 := by have := hlen.out; omega
                clear Hb2 hlen hne
                rcases (show (b : Int) ≤ most ∨ most < (b : Int) by omega) with hle2 | hle2
                · have HR : Hid (numR s most = ((b : Int), s.extract (1 + 1) s.size, 0)) := by have := HR0.out; unfold numFin at this; rw [if_pos hle2] at this; exact this
                  go_wp2_with (go_at_call 80; refine (hL.out _).mono ?_; rintro e w' ⟨rfl, rfl⟩)
                  go_step3
                  go_wp2
                  simp only [jumps_ret]
                  go_ret
                  exact ⟨by rw [HR.out]; rfl, by rw [HR.out]; exact fin_store HI.out HB.out 0 _⟩
                · have HR : Hid (numR s most = (0, ByteArray.empty, 3)) := by have := HR0.out; unfold numFin at this; rw [if_neg (by omega)] at this; exact this
                  go_wp2_with (go_at_call 80; refine (hL.out _).mono ?_; rintro e w' ⟨rfl, rfl⟩)
                  go_step3
                  go_wp2
                  go_step3
                  go_wp2_with (go_at_call 90; refine (HF.out 0 _).mono ?_; rintro e w9 ⟨rfl, h9⟩; have H9 := Lib.hid h9; clear h9)
                  simp only [jumps_ret]
                  go_ret
                  exact ⟨by rw [HR.out]; rfl, by rw [HR.out]; exact H9.out⟩
              · have HR : Hid (numR s most = (0, ByteArray.empty, 2)) := by have := Hb2.out; rw [if_pos (.inr hne)] at this; exact this
                obtain ⟨kk, hkk⟩ : ∃ kk, kk = byteLen b := ⟨_, rfl⟩
                have hq : ((L : Int) + 7) / 8 = (kk : Int) := by have := hlen.out; omega
                have hne2 : ((kk : Int) != 1) = true := by rw [bne_iff_ne]; omega
                have hne3 : ((kk : Int) == 1) = false := by rw [beq_eq_false_iff_ne]; omega
                clear Hb2 hlen hne hkk
                go_wp2_with (go_at_call 80; refine (hL.out _).mono ?_; rintro e w' ⟨rfl, rfl⟩)
                go_step3
                show ∃ m2, NumJ g s most w m2 0 _ _
                exact ⟨0, .inl ⟨rfl, rfl, NumJ0.mk 2 ⟨HR.out⟩ (by repeat (first | exact Drawn0.refl _ | apply Drawn0.step))⟩⟩
  case pass =>
    intro n l a w' hJ
    rcases hJ with ⟨rfl, rfl, hJ⟩ | ⟨rfl, rfl, hJ⟩ | ⟨m, rfl, rfl, hJ⟩
    · obtain ⟨code, u, rfl, ⟨hr⟩, ⟨m1, rfl⟩⟩ := hJ
      refine ⟨_, rfl, ?_⟩
      have HR := Lib.hid hr
      clear hr
      go_wp2_with (go_at_call 90; refine (HF.out _ _).mono ?_; rintro e w9 ⟨rfl, h9⟩; have H9 := Lib.hid h9; clear h9)
      simp only [jumps_ret]
      go_ret
      exact ⟨by rw [HR.out]; rfl, by rw [HR.out]; exact H9.out⟩
    · obtain ⟨v, sz, u, rfl, ⟨hr, hv0, hv1, hsz, hsz1⟩, ⟨m1, rfl⟩⟩ := hJ
      refine ⟨_, rfl, ?_⟩
      have HR0 := Lib.hid hr
      clear hr
      rcases (show v ≤ most ∨ most < v by omega) with hle | hle
      · have HR : Hid (numR s most = (v, s.extract (sz) s.size, 0)) := by have := HR0.out; unfold numFin at this; rw [if_pos hle] at this; exact this
        go_wp2
        simp only [jumps_ret]
        go_ret
        exact ⟨by rw [HR.out]; rfl, by rw [HR.out]; exact fin_store HI.out HB.out _ _⟩
      · have HR : Hid (numR s most = (0, ByteArray.empty, 3)) := by have := HR0.out; unfold numFin at this; rw [if_neg (by omega)] at this; exact this
        go_wp2
        go_step3
        go_wp2_with (go_at_call 90; refine (HF.out _ _).mono ?_; rintro e w9 ⟨rfl, h9⟩; have H9 := Lib.hid h9; clear h9)
        simp only [jumps_ret]
        go_ret
        exact ⟨by rw [HR.out]; rfl, by rw [HR.out]; exact H9.out⟩
    · obtain ⟨c, k, u, rfl, ⟨hr, hk8, hks, hck⟩, ⟨m1, rfl⟩⟩ := hJ
      refine ⟨_, rfl, ?_⟩
      have HR0 := Lib.hid hr
      clear hr
      have hv := beVal_lt s c
      have hv7 : beVal s c < 72057594037927936 := by
        have : (256 : Nat) ^ c ≤ 256 ^ 7 := Nat.pow_le_pow_right (by omega) (by omega)
        have e : (256 : Nat) ^ 7 = 72057594037927936 := by decide
        omega
      have hbr := bt_range s ((c + 1 : Nat) : Int)
      obtain ⟨b, hb⟩ : ∃ b : Nat, (b : Int) = bt s ((c + 1 : Nat) : Int) := ⟨(bt s ((c + 1 : Nat) : Int)).toNat, by omega⟩
      have hb256 : b < 256 := by omega
      have hx5 : ∀ h : c + 1 < s.size, ((s[c + 1]'h).toNat : Int) = (b : Int) := fun h => by rw [hb]; exact bt_at s ((c + 1 : Nat) : Int) h
      have HV : Hid (beVal s (c + 1) = beVal s c * 256 + b) := by show _ = _; simp only [beVal]; rw [← hb]; simp
      have hor := or_byte (beVal s c) b hv7 hb256
      have hor2 : bits .or .u64 ((beVal s c : Int) * 256) (b : Int) = ((beVal s c * 256 + b : Nat) : Int) := by rw [← hor]; push_cast; rfl
      have hcs : ((c : Int) + 1) < s.size := by omega
      clear hv hbr hb hor
      generalize hVV : beVal s c = V at *
      rcases (show c + 1 < k ∨ k = c + 1 by omega) with hlt | hlt
      · obtain ⟨m', rfl⟩ : ∃ m', m = m' + 1 := ⟨m - 1, by omega⟩
        have hcc : Hid ((V : Int) * 256 + (b : Int) = (beVal s (c + 1) : Int)) := by show _ = _; rw [HV.out]; push_cast; rfl
        clear hVV
        go_wp2
        go_step3
        show ∃ m2, m2 < m' + 1 + 2 ∧ NumJ g s most w m2 2 _ _
        rw [hcc.out]
        exact ⟨m' + 2, by omega, .inr (.inr ⟨m', rfl, rfl, NumJ2.mk (c + 1) k ⟨HR0.out, hk8, hks, by omega⟩ (by repeat (first | exact Drawn0.refl _ | apply Drawn0.step))⟩)⟩
      · clear hVV
        subst hlt
        clear hck hks
        have hbig : Hid (numR s most = numBig s most (c + 1)) := HR0.out
        obtain ⟨V2, hV2⟩ : ∃ V2 : Nat, V2 = V * 256 + b := ⟨_, rfl⟩
        have hW : beVal s (c + 1) = V2 := by rw [HV.out, hV2]
        have hV64 : V2 < 2 ^ 64 := by omega
        have hcast : (V : Int) * 256 + (b : Int) = (V2 : Int) := by omega
        have hcast2 : ((V * 256 + b : Nat) : Int) = (V2 : Int) := by omega
        rw [hcast2] at hor2
        have Hb2 : Hid (numR s most = if V2 < 248 ∨ byteLen V2 ≠ c + 1 then (0, ByteArray.empty, 2) else numFin s most (V2 : Int) (c + 1 + 1)) := by
          have := hbig.out
          unfold numBig at this
          rw [hW] at this
          exact this
        have hL : Hid (∀ w, Calls Try.prog 80 #[.int .u64 (V2 : Int)] w fun e w' => e = .returned (.int .i64 (Lib.bitLen V2)) ∧ w = w') := fun w => (Try.bits_Len64 (V2 : Int) w (by omega) (by omega)).mono fun _ _ ⟨a, b⟩ => ⟨by simpa using a, b.symm⟩
        have hkb := bitLen_le (x := V2) (m := 64) (Nat.le_refl _) hV64
        have hlen : Hid ((Lib.bitLen V2 + 7) / 8 = byteLen V2) := rfl
        generalize Lib.bitLen V2 = L at *
        clear hV2 hW hbig HR0 hcast2 hV64 HV
        rcases (show V2 < 248 ∨ 248 ≤ V2 by omega) with hsm | hsm
        · have HR : Hid (numR s most = (0, ByteArray.empty, 2)) := by have := Hb2.out; rw [if_pos (.inl hsm)] at this; exact this
          clear Hb2
          go_wp2
          go_step3
          show ∃ m2, m2 < m + 2 ∧ NumJ g s most w m2 0 _ _
          exact ⟨0, by omega, .inl ⟨rfl, rfl, NumJ0.mk 2 ⟨HR.out⟩ (by repeat (first | exact Drawn0.refl _ | apply Drawn0.step))⟩⟩
        · by_cases hne : byteLen V2 = c + 1
          · have HR0 : Hid (numR s most = numFin s most (V2 : Int) (c + 1 + 1)) := by have := Hb2.out; rw [if_neg (by omega)] at this; exact this
            have hq : ((L : Int) + 7) / 8 = (c : Int) + 1 := by have := hlen.out; omega
            clear Hb2 hlen hne
            rcases (show (V2 : Int) ≤ most ∨ most < (V2 : Int) by omega) with hle2 | hle2
            · have HR : Hid (numR s most = ((V2 : Int), s.extract (c + 1 + 1) s.size, 0)) := by have := HR0.out; unfold numFin at this; rw [if_pos hle2] at this; exact this
              go_wp2_with (go_at_call 80; refine (hL.out _).mono ?_; rintro e w' ⟨rfl, rfl⟩)
              go_step3
              go_wp2
              simp only [jumps_ret]
              go_ret
              exact ⟨by rw [HR.out]; rfl, by rw [HR.out]; exact fin_store HI.out HB.out _ _⟩
            · have HR : Hid (numR s most = (0, ByteArray.empty, 3)) := by have := HR0.out; unfold numFin at this; rw [if_neg (by omega)] at this; exact this
              go_wp2_with (go_at_call 80; refine (hL.out _).mono ?_; rintro e w' ⟨rfl, rfl⟩)
              go_step3
              go_wp2
              go_step3
              go_wp2_with (go_at_call 90; refine (HF.out _ _).mono ?_; rintro e w9 ⟨rfl, h9⟩; have H9 := Lib.hid h9; clear h9)
              simp only [jumps_ret]
              go_ret
              exact ⟨by rw [HR.out]; rfl, by rw [HR.out]; exact H9.out⟩
          · have HR : Hid (numR s most = (0, ByteArray.empty, 2)) := by have := Hb2.out; rw [if_pos (.inr hne)] at this; exact this
            obtain ⟨kk, hkk⟩ : ∃ kk, kk = byteLen V2 := ⟨_, rfl⟩
            have hq : ((L : Int) + 7) / 8 = (kk : Int) := by have := hlen.out; omega
            have hne2 : ((kk : Int) != (c : Int) + 1) = true := by rw [bne_iff_ne]; omega
            have hne3 : ((kk : Int) == (c : Int) + 1) = false := by rw [beq_eq_false_iff_ne]; omega
            clear Hb2 hlen hne hkk
            go_wp2_with (go_at_call 80; refine (hL.out _).mono ?_; rintro e w' ⟨rfl, rfl⟩)
            go_step3
            show ∃ m2, m2 < m + 2 ∧ NumJ g s most w m2 0 _ _
            exact ⟨0, by omega, .inl ⟨rfl, rfl, NumJ0.mk 2 ⟨HR.out⟩ (by repeat (first | exact Drawn0.refl _ | apply Drawn0.step))⟩⟩
end Go.Proofs.Ytccdmedhkbabpaa
/- pack.Reader's Number: with an error nothing is read; both cases together. Conditions: those that the theorems name. -/
namespace Go.Proofs.Ytccdmedhkbabpaa
open Go.RowKit Go.Proofs.YtccdmedhkbabpaaW.PrintWords PRd
set_option maxRecDepth 100000 in
set_option maxHeartbeats 8000000 in
theorem rnum_err (w0 w : World) (g : Nat) (s : ByteArray) (er most : Int) (her : er ≠ 0) (hI : IsS136 w0 w g s er) (hB : Below w0.heap.size w0 w) :
    Calls Try.prog 73 #[.pointer (some ⟨g, 0, none⟩), .int .u64 most] w fun e w' => e = .returned (.int .u64 0) ∧ IsS136 w0 w' g s er ∧ Below w0.heap.size w0 w' ∧ KeepBut w w' g none := by
  have HI := Lib.hid hI
  have HB := Lib.hid hB
  have hb := hI.1
  have c0 := cellS136_0 hb
  have c1 := cellS136_1 hb
  have f0 := blk_frozen hb 0
  have f1 := blk_frozen hb 1
  have he1 : (er != 0) = true := by rw [bne_iff_ne]; exact her
  have he2 : (er == 0) = false := by rw [beq_eq_false_iff_ne]; exact her
  clear hI hB hb
  go_enter Try.func73, Try.ntmps73
  go_wp2
  refine wp_scope_many (fun _ _ _ _ => False) ?_ (fun _ _ _ _ h => h.elim)
  go_wp2
  simp only [jumps_ret]
  go_ret
  exact ⟨rfl, HI.out, HB.out, KeepBut.refl w g none⟩
/-- What Number answers, what is left, the error. -/
def rdNum (s : ByteArray) (er most : Int) : Int × ByteArray × Int := if er = 0 then numR s most else (0, s, er)
theorem rnumber (w0 w : World) (g : Nat) (s : ByteArray) (er most : Int) (hm0 : 0 ≤ most) (hm1 : most ≤ 18446744073709551615) (hI : IsS136 w0 w g s er) (hB : Below w0.heap.size w0 w) :
    Calls Try.prog 73 #[.pointer (some ⟨g, 0, none⟩), .int .u64 most] w fun e w' => e = .returned (.int .u64 (rdNum s er most).1) ∧ IsS136 w0 w' g (rdNum s er most).2.1 (rdNum s er most).2.2 ∧ Below w0.heap.size w0 w' ∧ KeepBut w w' g none := by
  unfold rdNum
  by_cases h : er = 0
  · subst h
    rw [if_pos rfl]
    exact rnum w0 w g s most hm0 hm1 hI hB
  · rw [if_neg h]
    exact rnum_err w0 w g s er most h hI hB
end Go.Proofs.Ytccdmedhkbabpaa
/- CRC-32C as plain words: bit by bit, four bits at a time; that one byte that is another one makes another sum. No program in sight. -/
namespace Go.Proofs.Ytccdmedhkbabpaa
open Go.RowKit Go.Proofs.YtccdmedhkbabpaaW.PrintWords

/-- One bit's step. -/
def sh (x : Nat) : Nat := (x / 2) ^^^ (2197175160 * (x % 2))
def sh4 (x : Nat) : Nat := sh (sh (sh (sh x)))
/-- Four bits' step, by the table's entry. -/
def nib (x : Nat) : Nat := (x / 16) ^^^ sh4 (x % 16)
def byteStep (x b : Nat) : Nat := nib (nib (x ^^^ b))
def sumS (x : Nat) (l : List Nat) : Nat := l.foldl byteStep x
def natsOf (s : ByteArray) : List Nat := s.data.toList.map UInt8.toNat
def sumN (s : ByteArray) : Nat := sumS 4294967295 (natsOf s) ^^^ 4294967295

theorem xor_u32 (a b : Nat) (ha : a < 4294967296) (hb : b < 4294967296) : Go.bits .xor .u32 (a : Int) (b : Int) = ((a ^^^ b : Nat) : Int) := by
  simp only [Go.bits, BitVec.ofInt_natCast, BitVec.toNat_xor, BitVec.toNat_ofNat]
  rw [IntKind.wrap_u32, Nat.mod_eq_of_lt (show a < 2 ^ IntKind.u32.bits from ha), Nat.mod_eq_of_lt (show b < 2 ^ IntKind.u32.bits from hb)]
  have h := Nat.xor_lt_two_pow (x := a) (y := b) (n := 32) ha hb
  rw [Int.emod_eq_of_lt (by omega)]
  have : (2 : Nat) ^ 32 = 4294967296 := by decide
  omega
theorem xor_lt {a b : Nat} (ha : a < 4294967296) (hb : b < 4294967296) : a ^^^ b < 4294967296 := Nat.xor_lt_two_pow (n := 32) ha hb
theorem and_u32 (a i : Nat) (ha : a < 4294967296) (hi : i ≤ 32) : Go.bits .and .u32 (a : Int) (2 ^ i - 1) = ((a % 2 ^ i : Nat) : Int) := by
  rw [bits_mask .u32 32 (by decide) (fun n h0 h1 => by rw [IntKind.wrap_u32]; have : (2 : Int) ^ 32 = 4294967296 := by decide
                                                       omega) i hi _ (by omega) (by have : (2 : Int) ^ 32 = 4294967296 := by decide
                                                                                    omega)]
  simp
theorem and1_u32 (a : Nat) (ha : a < 4294967296) : Go.bits .and .u32 (a : Int) 1 = ((a % 2 : Nat) : Int) := by simpa using and_u32 a 1 ha (by decide)
theorem and15_u32 (a : Nat) (ha : a < 4294967296) : Go.bits .and .u32 (a : Int) 15 = ((a % 16 : Nat) : Int) := by
  have := and_u32 a 4 ha (by decide)
  rw [show ((2 : Int) ^ 4 - 1) = 15 by decide, show (2 ^ 4 : Nat) = 16 by decide] at this
  exact this
theorem sh_lt {x : Nat} (h : x < 4294967296) : sh x < 4294967296 := xor_lt (by omega) (by omega)
theorem sh4_lt {x : Nat} (h : x < 4294967296) : sh4 x < 4294967296 := sh_lt (sh_lt (sh_lt (sh_lt h)))
theorem nib_lt {x : Nat} (h : x < 4294967296) : nib x < 4294967296 := xor_lt (by omega) (sh4_lt (by omega))
theorem byteStep_lt {x b : Nat} (h : x < 4294967296) (hb : b < 4294967296) : byteStep x b < 4294967296 := nib_lt (nib_lt (xor_lt h hb))
theorem natsOf_lt (s : ByteArray) : ∀ b ∈ natsOf s, b < 256 := by
  intro b hb
  obtain ⟨u, _, rfl⟩ := List.mem_map.1 hb
  exact u.toNat_lt
theorem sumS_lt {x : Nat} (h : x < 4294967296) (l : List Nat) (hl : ∀ b ∈ l, b < 256) : sumS x l < 4294967296 := by
  induction l generalizing x with
  | nil => exact h
  | cons b l ih =>
    have := hl b (List.mem_cons_self ..)
    exact ih (byteStep_lt h (by omega)) fun c hc => hl c (List.mem_cons_of_mem _ hc)
theorem sumS_snoc (x : Nat) (l : List Nat) (b : Nat) : sumS x (l ++ [b]) = byteStep (sumS x l) b := by simp [sumS]
theorem natsOf_length (s : ByteArray) : (natsOf s).length = s.size := by unfold natsOf; rw [List.length_map, Array.length_toList]; rfl
/-! ### The table -/
def shn : Nat → Nat → Nat
  | 0, x => x
  | j + 1, x => sh (shn j x)
theorem shn_lt (j : Nat) {x : Nat} (h : x < 4294967296) : shn j x < 4294967296 := by
  induction j with
  | zero => exact h
  | succ j ih => exact sh_lt ih
theorem sh_val (x : Nat) (h : x < 4294967296) : Go.bits .xor .u32 ((x : Int) / 2) ((2197175160 * Go.bits .and .u32 (x : Int) 1) % 4294967296) = ((sh x : Nat) : Int) := by
  rw [and1_u32 x h]
  have h1 : (2197175160 * ((x % 2 : Nat) : Int)) % 4294967296 = ((2197175160 * (x % 2) : Nat) : Int) := by omega
  rw [h1, show ((x : Int) / 2) = ((x / 2 : Nat) : Int) by omega, xor_u32 _ _ (by omega) (by omega)]
  rfl
/-- The table's cells, the first k of them filled. -/
def tabC (k : Nat) : Array Value := ((List.range 16).map fun j => Value.int .u32 (((if j < k then sh4 j else 0 : Nat)) : Int)).toArray
theorem tabC_size (k : Nat) : (tabC k).size = 16 := by simp [tabC]
theorem tabC_get (k j : Nat) (h : j < 16) : (tabC k)[j]? = some (.int .u32 (((if j < k then sh4 j else 0 : Nat)) : Int)) := by simp [tabC, h]
theorem tabC_zero : tabC 0 = #[.int .u32 0, .int .u32 0, .int .u32 0, .int .u32 0, .int .u32 0, .int .u32 0, .int .u32 0, .int .u32 0, .int .u32 0, .int .u32 0, .int .u32 0, .int .u32 0, .int .u32 0, .int .u32 0, .int .u32 0, .int .u32 0] := by rfl
theorem tabC_set (k : Nat) (h : k < 16) : (tabC k).setIfInBounds k (.int .u32 ((shn 4 k : Nat) : Int)) = tabC (k + 1) := by
  apply Array.ext_getElem?
  intro j
  rw [Array.getElem?_setIfInBounds]
  by_cases hj : j < 16
  · rw [tabC_get _ _ hj, tabC_get _ _ hj]
    by_cases e : k = j
    · subst e
      rw [if_pos rfl, tabC_size, if_pos h, if_pos (by omega)]
      rfl
    · rw [if_neg e]
      by_cases hk : j < k
      · rw [if_pos hk, if_pos (by omega)]
      · rw [if_neg hk, if_neg (by omega)]
  · rw [if_neg (by omega), Array.getElem?_eq_none (by rw [tabC_size]; omega), Array.getElem?_eq_none (by rw [tabC_size]; omega)]
theorem nib_val (x y : Nat) (h : x < 4294967296) (hy : y = sh4 (x % 16)) : Go.bits .xor .u32 ((x : Int) / 16) (y : Int) = ((nib x : Nat) : Int) := by
  subst hy
  rw [show ((x : Int) / 16) = ((x / 16 : Nat) : Int) by omega, xor_u32 _ _ (by omega) (sh4_lt (by omega))]
  rfl

/-! ### Linear -/
/-! ### One to one -/
end Go.Proofs.Ytccdmedhkbabpaa
/- What Reader.Number reads of what Writer.Number wrote, and the other way round. No program in sight. -/
namespace Go.Proofs.Ytccdmedhkbabpaa
open Go.RowKit Go.Proofs.YtccdmedhkbabpaaW.PrintWords

theorem bytesOf_length (s : ByteArray) : (bytesOf s).length = s.size := by unfold bytesOf; rw [List.length_map]; exact Array.length_toList
theorem bytesOf_extract (s : ByteArray) (a b : Nat) : bytesOf (s.extract a b) = ((bytesOf s).take b).drop a := by
  unfold bytesOf
  rw [ByteArray.data_extract, Array.toList_extract, List.extract_eq_drop_take', List.map_drop, List.map_take]
theorem getD_left (l m : List Int) (d : Int) (i : Nat) (h : i < l.length) : (l ++ m).getD i d = l.getD i d := by
  rw [List.getD_eq_getElem?_getD, List.getD_eq_getElem?_getD, List.getElem?_append_left h]
theorem bt_get (s : ByteArray) (i : Nat) : bt s (i : Int) = (bytesOf s).getD i 0 := by
  unfold bt
  simp only [Int.toNat_natCast]
  split
  · rename_i h
    have hl : i < (bytesOf s).length := by rw [bytesOf_length]; exact h
    rw [List.getD_eq_getElem?_getD, List.getElem?_eq_getElem hl]
    simp [bytesOf]
    rfl
  · rename_i h
    have hl : (bytesOf s).length ≤ i := by rw [bytesOf_length]; omega
    rw [List.getD_eq_getElem?_getD, List.getElem?_eq_none hl]; rfl
/-- The number that bytes make, the greatest first. -/
def val (l : List Int) : Nat := l.foldl (fun a b => a * 256 + b.toNat) 0
theorem val_snoc (l : List Int) (b : Int) : val (l ++ [b]) = val l * 256 + b.toNat := by simp [val]
theorem beVal_eq (s : ByteArray) (c : Nat) (h : c < s.size) : beVal s c = val (((bytesOf s).drop 1).take c) := by
  induction c with
  | zero => simp [beVal, val]
  | succ c ih =>
    have hl : c < ((bytesOf s).drop 1).length := by rw [List.length_drop, bytesOf_length]; omega
    rw [List.take_succ_eq_append_getElem hl, val_snoc, beVal, ih (by omega), bt_get]
    have h2 : c + 1 < (bytesOf s).length := by rw [bytesOf_length]; omega
    rw [List.getD_eq_getElem?_getD, List.getElem?_eq_getElem h2]
    simp [Nat.add_comm]
theorem val_beTo (k x : Nat) (hx : x < 256 ^ k) : ∀ c, c ≤ k → val (beTo k x c) = x / 256 ^ (k - c) := by
  intro c
  induction c with
  | zero => intro _; simp only [beTo, List.range_zero, List.map_nil, val, List.foldl_nil, Nat.sub_zero]; rw [Nat.div_eq_of_lt hx]
  | succ c ih =>
    intro hc
    rw [beTo_succ, val_snoc, ih (by omega), Int.toNat_natCast, show k - 1 - c = k - (c + 1) by omega]
    have e : k - c = (k - (c + 1)) + 1 := by omega
    rw [e, Nat.pow_succ, ← Nat.div_div_eq_div_mul]
    omega
theorem beTo_up (k v b : Nat) (hb : b < 256) (c : Nat) (hc : c ≤ k) : beTo (k + 1) (v * 256 + b) c = beTo k v c := by
  unfold beTo
  apply List.map_congr_left
  intro j hj
  have hj := List.mem_range.1 hj
  have e : k + 1 - 1 - j = (k - 1 - j) + 1 := by omega
  rw [e, Nat.pow_succ, Nat.mul_comm (256 ^ (k - 1 - j)) 256, ← Nat.div_div_eq_div_mul, show (v * 256 + b) / 256 = v by omega]
theorem beTo_val (l : List Int) (hb : Bytes l) : beTo l.length (val l) l.length = l := by
  rw [← l.reverse_reverse]
  generalize hr : l.reverse = r
  have hb : Bytes r.reverse := by rw [← hr, List.reverse_reverse]; exact hb
  clear hr
  induction r with
  | nil => rfl
  | cons b r ih =>
    rw [List.reverse_cons] at hb ⊢
    have hb1 : Bytes r.reverse := fun x hx => hb x (List.mem_append_left _ hx)
    have hbb := hb b (by simp)
    have ih := ih hb1
    rw [val_snoc, List.length_append, List.length_singleton, beTo_succ, beTo_up _ _ _ (by omega) _ (Nat.le_refl _), ih]
    congr 2
    rw [show r.reverse.length + 1 - 1 - r.reverse.length = 0 by omega, Nat.pow_zero, Nat.div_one]
    omega
theorem val_lt (l : List Int) (hb : Bytes l) : val l < 256 ^ l.length := by
  rw [← l.reverse_reverse]
  generalize hr : l.reverse = r
  have hb : Bytes r.reverse := by rw [← hr, List.reverse_reverse]; exact hb
  clear hr
  induction r with
  | nil => simp [val]
  | cons b r ih =>
    rw [List.reverse_cons] at hb ⊢
    have ih := ih (fun x hx => hb x (List.mem_append_left _ hx))
    have hbb := hb b (by simp)
    rw [val_snoc, List.length_append, List.length_singleton, Nat.pow_succ]
    omega
/-- What is read of a number's bytes and what goes on behind them. -/
theorem numR_enc (n m : Int) (t : ByteArray) (h0 : 0 ≤ n) (h1 : n ≤ 18446744073709551615) : numR (encB n ++ t) m = if n ≤ m then (n, t, 0) else (0, ByteArray.empty, 3) := by
  have hsz := (encB_size h1).1
  have hbo : bytesOf (encB n ++ t) = encN n ++ bytesOf t := by rw [bytesOf_append]; unfold encB; rw [bytesOf_nums _ (encN_bytes h0 h1)]
  have hsize : (encB n ++ t).size = (encN n).length + t.size := by rw [ByteArray.size_append]; unfold encB; rw [size_nums]
  have hext : ∀ sz, sz = (encN n).length → (encB n ++ t).extract sz (encB n ++ t).size = t := by
    intro sz hs
    apply bytes_ext
    rw [bytesOf_extract, ← bytesOf_length, List.take_length, hbo, hs, List.drop_left]
  have hlen := encN_length (n := n) h1
  unfold numR
  rw [if_neg (by omega)]
  have hb0 : bt (encB n ++ t) 0 = (encN n).getD 0 0 := by
    have := bt_get (encB n ++ t) 0
    rw [hbo] at this
    refine this.trans ?_
    rw [getD_left _ _ _ _ (by omega)]
  rw [hb0]
  by_cases hn : n < 248
  · have e : encN n = [n] := by unfold encN; rw [if_pos hn]
    rw [e] at hext
    rw [e]
    simp only [List.getD_cons_zero]
    rw [if_pos hn]
    unfold numFin
    rw [hext 1 rfl]
  · have e : encN n = (247 + (byteLen n.toNat : Int)) :: beTo (byteLen n.toNat) n.toNat (byteLen n.toNat) := by unfold encN; rw [if_neg hn]
    have hr := byteLen_range (x := n.toNat) (by omega) (by omega)
    have hlt := byteLen_lt (x := n.toNat) (by omega) (by omega)
    generalize hk : byteLen n.toNat = k at *
    have hl : (encN n).length = k + 1 := by rw [e, List.length_cons, beTo_length]
    rw [e, List.getD_cons_zero, if_neg (by omega)]
    have hkk : (247 + (k : Int) - 247).toNat = k := by omega
    rw [hkk, if_neg (by omega)]
    unfold numBig
    have hv : beVal (encB n ++ t) k = n.toNat := by
      rw [beVal_eq _ _ (by omega), hbo, e, List.cons_append, List.drop_succ_cons, List.drop_zero, List.take_left' (beTo_length _ _ _), val_beTo _ _ hlt.1 _ (Nat.le_refl _), Nat.sub_self, Nat.pow_zero, Nat.div_one]
    rw [hv, if_neg (by omega)]
    unfold numFin
    rw [hext (k + 1) hl.symm, show (n.toNat : Int) = n by omega]
/-- What was read stood there. -/
theorem numR_inv (s : ByteArray) (m n : Int) (t : ByteArray) (h : numR s m = (n, t, 0)) : s = encB n ++ t ∧ 0 ≤ n ∧ n ≤ m ∧ n ≤ 18446744073709551615 := by
  unfold numR at h
  split at h
  · simp at h
  · rename_i h0
    have hr := bt_range s 0
    have hb0 : bt s 0 = (bytesOf s).getD 0 0 := bt_get s 0
    have hlen := bytesOf_length s
    have hB := bytesOf_bytes s
    have happ : ∀ (x : Int) (sz : Nat), 0 ≤ x → x ≤ 18446744073709551615 → sz ≤ s.size → (bytesOf s).take sz = encN x → s = encB x ++ s.extract sz s.size := by
      intro x sz h0 h1 hs hx
      apply bytes_ext
      rw [bytesOf_append, bytesOf_extract, ← bytesOf_length, List.take_length]
      unfold encB
      rw [bytesOf_nums _ (encN_bytes h0 h1), ← hx, List.take_append_drop]
    split at h
    · rename_i h1
      unfold numFin at h
      split at h
      · rename_i h2
        simp only [Prod.mk.injEq, and_true] at h
        obtain ⟨rfl, rfl⟩ := h
        refine ⟨happ _ 1 hr.1 (by omega) (by omega) ?_, hr.1, h2, by omega⟩
        unfold encN
        rw [if_pos h1, hb0]
        cases hl : bytesOf s with
        | nil => rw [hl] at hlen; simp at hlen; omega
        | cons a l => simp
      · simp at h
    · rename_i h1
      split at h
      · simp at h
      · rename_i h2
        obtain ⟨k, hk⟩ : ∃ k : Nat, bt s 0 = 247 + (k : Int) := ⟨(bt s 0 - 247).toNat, by omega⟩
        rw [show (bt s 0 - 247).toNat = k by omega] at h h2
        unfold numBig at h
        split at h
        · simp at h
        · rename_i h3
          unfold numFin at h
          split at h
          · rename_i h4
            simp only [Prod.mk.injEq, and_true] at h
            obtain ⟨rfl, rfl⟩ := h
            have hv := beVal_eq s k (by omega)
            have hcl : (((bytesOf s).drop 1).take k).length = k := by rw [List.length_take, List.length_drop]; omega
            have hBy : Bytes (((bytesOf s).drop 1).take k) := fun x hx => hB x (List.mem_of_mem_drop (List.mem_of_mem_take hx))
            have hlt := val_lt _ hBy
            rw [hcl] at hlt
            have hbv := beTo_val _ hBy
            rw [hcl] at hbv
            rw [← hv] at hlt hbv
            have h64 : beVal s k < 2 ^ 64 := by
              have : 256 ^ k ≤ 256 ^ 8 := Nat.pow_le_pow_right (by omega) (by omega)
              have e : (256 : Nat) ^ 8 = 2 ^ 64 := by decide
              omega
            refine ⟨happ _ (k + 1) (by omega) (by omega) (by omega) ?_, by omega, h4, by omega⟩
            unfold encN
            rw [if_neg (by omega), Int.toNat_natCast, show byteLen (beVal s k) = k by omega, hbv, ← hk, hb0]
            cases hl : bytesOf s with
            | nil => rw [hl] at hlen; simp at hlen; omega
            | cons a l => simp
          · simp at h
end Go.Proofs.Ytccdmedhkbabpaa
/- A pack.Writer as a state: the text that has been written; and what a call that writes keeps. Conditions: those that each theorem names. -/
namespace Go.Proofs.Ytccdmedhkbabpaa
open Go.RowKit Go.Proofs.YtccdmedhkbabpaaW.PrintWords

theorem below_alloc' {w0 w : World} (h : Below w0.heap.size w0 w) (o : Obj) : Below w0.heap.size w0 (w.alloc o) := below_alloc h o
/-- The Writer at block g: s has been written. -/
def IsS112 (w0 W : World) (g : Nat) (s : ByteArray) : Prop :=
  ∃ v, W.heap[g]? = some (.cells #[v] 112 (0, 0)) ∧ w0.heap.size ≤ g ∧ W.ownsRow w0.heap.size 5 1 v s.size (nums .u8 (bytesOf s))
/-- The block of the row that the one-field struct at block g leads to. -/
def rowOf (W : World) (g : Nat) : Option Nat :=
  match W.heap[g]? with
  | some (.cells cs _ _) => (cs[0]?).bind Value.ownBlock
  | _ => none
theorem rowOf_eq {W W2 : World} {g : Nat} (h : W2.heap[g]? = W.heap[g]?) : rowOf W2 g = rowOf W g := by unfold rowOf; rw [h]
theorem rowOf_at {W : World} {g : Nat} {v : Value} {t : TypeId} {fr : Nat × Nat} (h : W.heap[g]? = some (.cells #[v] t fr)) : rowOf W g = v.ownBlock := by unfold rowOf; rw [h]; rfl
/-- All but block g, the row that it leads to, and what is new since. -/
def KeepW (w W : World) (g : Nat) : Prop := g < w.heap.size → w.heap.size ≤ W.heap.size ∧ (∀ i, i < w.heap.size → i ≠ g → some i ≠ rowOf w g → W.heap[i]? = w.heap[i]?) ∧ (rowOf W g = rowOf w g ∨ ∀ b, rowOf W g = some b → w.heap.size ≤ b)
theorem KeepW.refl (w : World) (g : Nat) : KeepW w w g := fun _ => ⟨Nat.le_refl _, fun _ _ _ _ => rfl, .inl rfl⟩
theorem KeepW.trans {w w1 w2 : World} {g : Nat} (h : KeepW w w1 g) (k : KeepW w1 w2 g) : KeepW w w2 g := by
  intro hg
  obtain ⟨h1, h2, h3⟩ := h hg
  obtain ⟨k1, k2, k3⟩ := k (Nat.lt_of_lt_of_le hg h1)
  refine ⟨Nat.le_trans h1 k1, fun i hi hne hr => ?_, ?_⟩
  · rw [k2 i (Nat.lt_of_lt_of_le hi h1) hne ?_, h2 i hi hne hr]
    rcases h3 with h3 | h3
    · rw [h3]; exact hr
    · intro e; have := h3 i e.symm; omega
  · rcases k3 with k3 | k3
    · rw [k3]
      exact h3
    · exact .inr fun b hb => Nat.le_trans h1 (k3 b hb)
theorem KeepW.below {w w1 w2 : World} {g : Nat} (h : KeepW w w1 g) (k : Below w1.heap.size w1 w2) : KeepW w w2 g := by
  refine h.trans fun hg => ⟨k.size, fun i hi _ _ => k.block i hi, .inl (rowOf_eq (k.block g hg))⟩
theorem KeepW.alloc {w w1 : World} {g : Nat} (h : KeepW w w1 g) (o : Obj) : KeepW w (w1.alloc o) g := h.below (below_alloc (Below.refl _ _) o)
theorem KeepW.drew {w w1 : World} {g : Nat} (h : KeepW w w1 g) : KeepW w w1.drew g := h
theorem KeepW.drewN {w w1 : World} {g : Nat} (h : KeepW w w1 g) (m : Nat) : KeepW w (w1.drewN m) g := h
/-- What is no block of the Writer's is as it was. -/
theorem KeepW.block {w W : World} {w0 : World} {g : Nat} {s : ByteArray} (h : KeepW w W g) (hI : IsS112 w0 w g s) (i : Nat) (hne : i ≠ g) {cs : Array Value} {t : TypeId} {fr : Nat × Nat} (hb : w.heap[i]? = some (.cells cs t fr)) (ht : t ≠ 5) : W.heap[i]? = w.heap[i]? := by
  obtain ⟨v, h1, h2, h3⟩ := hI
  have hlt : ∀ j, (∃ o, w.heap[j]? = some o) → j < w.heap.size := fun j ⟨o, ho⟩ => (Array.getElem?_eq_some_iff.1 ho).1
  refine (h (hlt g ⟨_, h1⟩)).2.1 i (hlt i ⟨_, hb⟩) hne ?_
  rw [rowOf_at h1]
  intro e
  rcases h3.2 with ⟨rfl, _⟩ | ⟨k, cap, cur, rfl, _, hh, _⟩
  · simp [Value.ownBlock] at e
  · simp [Value.ownBlock] at e
    subst e
    rw [hb] at hh
    injection hh with hh
    injection hh with _ hh
    exact ht hh

section
variable {w0 W W1 : World} {g : Nat} {s : ByteArray}
theorem IsS112.lt (h : IsS112 w0 W g s) : g < W.heap.size := by
  obtain ⟨v, h1, _⟩ := h
  exact (Array.getElem?_eq_some_iff.1 h1).1
theorem IsS112.ge (h : IsS112 w0 W g s) : w0.heap.size ≤ g := by
  obtain ⟨v, _, h2, _⟩ := h
  exact h2
theorem IsS112.below (h : IsS112 w0 W g s) (hb : Below W.heap.size W W1) : IsS112 w0 W1 g s := by
  obtain ⟨v, h1, h2, h3⟩ := h
  exact ⟨v, (hb.block g (Array.getElem?_eq_some_iff.1 h1).1).trans h1, h2, pw_own_below h3 hb⟩
theorem IsS112.alloc (h : IsS112 w0 W g s) (o : Obj) : IsS112 w0 (W.alloc o) g s := h.below (below_alloc (Below.refl _ _) o)
theorem IsS112.drew (h : IsS112 w0 W g s) : IsS112 w0 W.drew g s := h
theorem IsS112.drewN (h : IsS112 w0 W g s) (m : Nat) : IsS112 w0 (W.drewN m) g s := h
theorem IsS112.at_ {w' : World} {m : Nat} (hq : W.drewN m = w') (h : IsS112 w0 W g s) : IsS112 w0 w' g s := by subst hq; exact h
/-- A new one. -/
theorem IsS112.made (w0 W : World) (hB : w0.heap.size ≤ W.heap.size) : IsS112 w0 (W.alloc (.cells #[.slice none 0 0] 112)) W.heap.size ByteArray.empty :=
  ⟨.slice none 0 0, heap_alloc_new W _, hB, own_nil _ _ _ _⟩
/-- Behind an append and its store. -/
theorem IsS112.stored {t : ByteArray} {v v1 : Value} {x : Value} (h : W.heap[g]? = some (.cells #[x] 112 (0, 0))) (hg : w0.heap.size ≤ g) (ho : W.ownsRow w0.heap.size 5 1 v1 t.size (nums .u8 (bytesOf t))) :
    IsS112 w0 (W.setCell ⟨g, 0, none⟩ v1) g t := by
  have hlt := (Array.getElem?_eq_some_iff.1 h).1
  refine ⟨v1, ?_, hg, own_move ho fun k hk => ?_⟩
  · simp only [World.setCell, Array.getElem?_modify, h]
    simp
  · refine Below.heap_setCell W ⟨g, 0, none⟩ v1 k ?_
    intro e
    have e : k = g := e
    rcases ho.2 with ⟨rfl, _⟩ | ⟨k', cap, cur, rfl, _, hh, _⟩
    · simp [Value.ownBlock] at hk
    · have : k' = k := by simpa [Value.ownBlock] using hk
      rw [this, e] at hh
      rw [hh] at h
      injection h with h
      injection h with _ h
      exact absurd h (by decide)
end
end Go.Proofs.Ytccdmedhkbabpaa
/- pack.Writer's Number: a number's bytes are written behind what is there. Conditions: those that the theorem names. -/
namespace Go.Proofs.Ytccdmedhkbabpaa
open Go.RowKit Go.Proofs.YtccdmedhkbabpaaW.PrintWords

theorem Try.infoByte : (Try.prog.info? 5).map (fun i => (i.zero, i.size, i.bytes)) = some (some (.int .u8 0), 1, 1) := by kernel_rfl

theorem halt_ {p : Prop} (h : Hid p) : p := h
theorem nums_snoc (s : ByteArray) (x : Int) (hx : 0 ≤ x ∧ x ≤ 255) : bytesOf s ++ [x] = bytesOf (s ++ strOfNums [x]) := by
  rw [bytesOf_append, bytesOf_nums [x] (by intro y hy; simp at hy; omega)]

theorem own_ne_blk {W : World} {base n g : Nat} {e t : TypeId} {v : Value} {xs : List Value} {cs : Array Value} {fr : Nat × Nat} (h : W.ownsRow base e 1 v n xs) (hb : W.heap[g]? = some (.cells cs t fr)) (ht : t ≠ e) : some g ≠ v.ownBlock := by
  intro he
  rcases h.2 with ⟨rfl, _⟩ | ⟨k', cap, cur, rfl, _, hh, _⟩
  · simp [Value.ownBlock] at he
  · have : g = k' := by simpa [Value.ownBlock] using he
    subst this
    rw [hh] at hb
    injection hb with hb
    injection hb with _ hb
    exact ht hb.symm
/-- What a call that appends and stores leaves. -/
theorem w_end {w0 w W w1 : World} {g : Nat} {s t : ByteArray} {v v1 : Value} (hb : W.heap[g]? = some (.cells #[v] 112 (0, 0))) (hg : w0.heap.size ≤ g) (hlt : g < W.heap.size) (ho : W.ownsRow w0.heap.size 5 1 v s.size (nums .u8 (bytesOf s)))
    (h1 : w1.ownsRow w0.heap.size 5 1 v1 t.size (nums .u8 (bytesOf t))) (hB1 : Below w0.heap.size w0 w1) (hgr : W.grownBy w1 v.ownBlock) (hat : v1.ownBlock = v.ownBlock ∨ ∃ b, v1.ownBlock = some b ∧ W.heap.size ≤ b) (hK : KeepW w W g) :
    IsS112 w0 (w1.setCell ⟨g, 0, none⟩ v1) g t ∧ Below w0.heap.size w0 (w1.setCell ⟨g, 0, none⟩ v1) ∧ KeepW w (w1.setCell ⟨g, 0, none⟩ v1) g := by
  have hne := own_ne_blk ho hb (by decide)
  have hb1 : w1.heap[g]? = some (.cells #[v] 112 (0, 0)) := (hgr.block g hlt hne).trans hb
  refine ⟨IsS112.stored (v := v) hb1 hg h1, hB1.setCell hg _, hK.trans fun _ => ⟨?_, ?_, ?_⟩⟩
  · exact Nat.le_trans hgr.size (by simp [World.setCell])
  · intro i hi hig hir
    rw [rowOf_at hb] at hir
    exact (Below.heap_setCell w1 ⟨g, 0, none⟩ v1 i hig).trans (hgr.block i hi hir)
  · have e : (w1.setCell ⟨g, 0, none⟩ v1).heap[g]? = some (.cells #[v1] 112 (0, 0)) := by
      simp only [World.setCell, Array.getElem?_modify, hb1]
      simp
    rw [rowOf_at e, rowOf_at hb]
    rcases hat with hat | ⟨b, hat, hbb⟩
    · exact .inl hat
    · exact .inr fun b' hb' => by rw [hat] at hb'; injection hb' with hb'; omega

set_option maxRecDepth 100000 in
set_option maxHeartbeats 2000000 in
theorem wnum_small (w0 w : World) (g : Nat) (s : ByteArray) (n : Int) (h0 : 0 ≤ n) (h1 : n < 248) (hI : IsS112 w0 w g s) (hB : Below w0.heap.size w0 w) (hl : s.size + 9 ≤ 140737488355328) :
    Calls Try.prog 52 #[.pointer (some ⟨g, 0, none⟩), .int .u64 n] w fun e w' => e = .returned (.tuple #[]) ∧ IsS112 w0 w' g (s ++ strOfNums [n]) ∧ Below w0.heap.size w0 w' ∧ KeepW w w' g := by
  obtain ⟨t, ht⟩ : ∃ t, t = s ++ strOfNums [n] := ⟨_, rfl⟩
  rw [← ht]
  have HT := Lib.hid ht
  obtain ⟨v, hb, hg, ho⟩ := hI
  have hlt : g < w.heap.size := (Array.getElem?_eq_some_iff.1 hb).1
  have hcell := cell_of_one hb
  have hfree := free_of_one hb
  have HO := Lib.hid ho
  have HB := Lib.hid hB
  have Hb := Lib.hid hb
  have hsz : (bytesOf s).length = s.size := bytesOf_length s
  obtain ⟨A, c, rfl⟩ := own_slice ho
  have hbase := hB.size
  have HS := Lib.hid hsz
  clear ho hB hb hsz ht
  go_enter Try.func52, Try.ntmps52
  have HO' : Hid (w.ownsRow w0.heap.size 5 1 (.slice A s.size c) (bytesOf s).length (nums .u8 (bytesOf s))) := by rw [HS.out]; exact HO.out
  go_wp2_with (at_builtin; refine halt_ ?_)
  refine Lib.hid ?_
  refine print_append_num (w0 := w0) w0.heap.size rfl (.tmp 14) (.tmp 17) 82 5 .u8 1 rfl Try.underlying82 Try.infoByte (by omega) (.slice A s.size c) (bytesOf s) n rfl rfl HO'.out HB.out hbase (by rw [HS.out]; omega) ?_
  intro v1 w1 hown hB1 hgr hat
  rw [nums_snoc s n ⟨h0, by omega⟩, ← HT.out, bytesOf_length] at hown
  obtain ⟨A1, c1, rfl⟩ := own_slice hown
  have Hend := Lib.hid (w_end (w := w) (t := t) Hb.out hg hlt HO.out hown hB1 hgr hat (KeepW.refl w g))
  have hb1 : w1.heap[g]? = some (.cells #[.slice A s.size c] 112 (0, 0)) := (hgr.block g hlt (own_ne_blk HO.out Hb.out (by decide))).trans Hb.out
  have hcell1 := cell_of_one hb1
  have hfree1 := free_of_one hb1
  clear hown hB1 hgr hat hb1 hcell hfree
  go_wp2
  refine bodyPost_ret (results_none rfl _ _ _) rfl ?_
  exact ⟨rfl, Hend.out⟩

theorem infoB : (Try.prog.info? 5).map (fun i => (i.zero, i.size, i.bytes)) = some (some (.int .u8 0), 1, 1) := Try.infoByte
theorem shift_byte (n : Int) (h0 : 0 ≤ n) (k j : Nat) (y : Int) (hj : j < k) (hk : k ≤ 8) (hy : y = ((n.toNat / 256 ^ (k - 1 - j) % 256 : Nat) : Int)) :
    ∃ X : Int, Op.shift BinOp.shr IntKind.u64 n IntKind.i64 (IntKind.i64.wrap (8 * ((k : Int) - 1 - j))) = pure (.int .u64 X) ∧ IntKind.u8.wrap X = y ∧ X % 256 = y := by
  refine ⟨((n.toNat / 256 ^ (k - 1 - j) : Nat) : Int), ?_, ?_, ?_⟩
  · have e : IntKind.i64.wrap (8 * ((k : Int) - 1 - j)) = ((8 * (k - 1 - j) : Nat) : Int) := by
      rw [IntKind.wrap_i64]
      omega
    rw [e, shift_shr .u64 .i64 n _ (by omega) (by simp [IntKind.bits]; omega)]
    congr 2
    rw [Int.toNat_natCast, pow256]
    rw [Int.natCast_ediv, Int.toNat_of_nonneg h0]
    simp
  · rw [hy]; exact (Int.natCast_emod _ _).symm
  · rw [hy]; exact (Int.natCast_emod _ _).symm

theorem grown_drew {w w1 : World} {row : Option Nat} (h : w.drew.grownBy w1 row) : w.grownBy w1 row := ⟨h.os, h.tape, h.output, h.size, h.block⟩
/-- What a round leaves. -/
theorem w_round {w0 w wr w3 : World} {g g3 c3 c2 : Nat} {A2 : Option Addr} {u : ByteArray} {y : Int} (hb : wr.heap[g]? = some (.cells #[.slice A2 u.size c2] 112 (0, 0))) (hg : w0.heap.size ≤ g)
    (ho : wr.ownsRow w0.heap.size 5 1 (.slice A2 u.size c2) u.size (nums .u8 (bytesOf u))) (hown : w3.ownsRow w0.heap.size 5 1 (.slice (some ⟨g3, 0, none⟩) (u.size + 1) c3) (u.size + 1) (nums .u8 (bytesOf u) ++ [.int .u8 y]))
    (hgr : wr.grownBy w3 (Value.slice A2 u.size c2).ownBlock) (hat : (Value.slice A2 u.size c2).ownBlock = some g3 ∨ g3 = wr.heap.size + 1) (hB : Below w0.heap.size w0 wr) (hbase : w0.heap.size ≤ wr.heap.size) (hK : KeepW w wr g) (hy : 0 ≤ y ∧ y ≤ 255) :
    IsS112 w0 (w3.setCell ⟨g, 0, none⟩ (.slice (some ⟨g3, 0, none⟩) (u.size + 1) c3)) g (u ++ strOfNums [y]) ∧ Below w0.heap.size w0 (w3.setCell ⟨g, 0, none⟩ (.slice (some ⟨g3, 0, none⟩) (u.size + 1) c3)) ∧ KeepW w (w3.setCell ⟨g, 0, none⟩ (.slice (some ⟨g3, 0, none⟩) (u.size + 1) c3)) g := by
  have hgw : g < wr.heap.size := (Array.getElem?_eq_some_iff.1 hb).1
  refine w_end (W := wr) (s := u) (t := u ++ strOfNums [y]) hb hg hgw ho ?_ (hB.grown hgr hbase (own_base ho)) hgr ?_ hK
  · have e : (u ++ strOfNums [y]).size = u.size + 1 := by rw [ByteArray.size_append, size_nums]; rfl
    rw [e, ← nums_snoc u y hy]
    have e2 : nums .u8 (bytesOf u ++ [y]) = nums .u8 (bytesOf u) ++ [.int .u8 y] := by simp [nums]
    rw [e2]
    exact hown
  · rcases hat with h | h
    · exact .inl h.symm
    · exact .inr ⟨g3, rfl, by omega⟩

/-- The text behind c bytes of the k. -/
def midW (s : ByteArray) (n : Int) (c : Nat) : ByteArray := s ++ strOfNums ((247 + (byteLen n.toNat : Int)) :: beTo (byteLen n.toNat) n.toNat c)
theorem midW_size (s : ByteArray) (n : Int) (c : Nat) : (midW s n c).size = s.size + 1 + c := by
  unfold midW
  rw [ByteArray.size_append, size_nums]; simp [beTo_length]; omega
theorem midW_zero (s : ByteArray) (n : Int) : midW s n 0 = s ++ strOfNums [247 + (byteLen n.toNat : Int)] := by simp [midW, beTo]
theorem midW_succ (s : ByteArray) (n : Int) (c : Nat) : midW s n (c + 1) = midW s n c ++ strOfNums [((n.toNat / 256 ^ (byteLen n.toNat - 1 - c) % 256 : Nat) : Int)] := by
  unfold midW
  rw [beTo_succ, ← List.cons_append, strOfNums_append, ByteArray.append_assoc]
theorem midW_all (s : ByteArray) (n : Int) (h : ¬ n < 248) : midW s n (byteLen n.toNat) = s ++ encB n := by
  unfold midW encB encN
  rw [if_neg h]

set_option maxRecDepth 100000 in
set_option maxHeartbeats 4000000 in
theorem wnum_big (w0 w : World) (g : Nat) (s : ByteArray) (n : Int) (h0 : 248 ≤ n) (h1 : n ≤ 18446744073709551615) (hI : IsS112 w0 w g s) (hB : Below w0.heap.size w0 w) (hl : s.size + 9 ≤ 140737488355328) :
    Calls Try.prog 52 #[.pointer (some ⟨g, 0, none⟩), .int .u64 n] w fun e w' => e = .returned (.tuple #[]) ∧ IsS112 w0 w' g (s ++ encB n) ∧ Below w0.heap.size w0 w' ∧ KeepW w w' g := by
  have h0' : 0 ≤ n := by omega
  obtain ⟨k, hk⟩ : ∃ k, k = byteLen n.toNat := ⟨_, rfl⟩
  have hkr := byteLen_range (x := n.toNat) (by omega) (by omega)
  rw [← hk] at hkr
  have hlen : Hid ((Lib.bitLen n.toNat + 7) / 8 = k) := hk.symm
  have hlen2 : Lib.bitLen n.toNat ≤ 64 := bitLen_le (Nat.le_refl _) (by omega)
  have Hall := Lib.hid (midW_all s n (by omega))
  rw [← hk] at Hall
  obtain ⟨hk1, hk8⟩ := hkr
  have HK := Lib.hid hk
  obtain ⟨t, ht⟩ : ∃ t, t = midW s n 0 := ⟨_, rfl⟩
  have HT := Lib.hid ht
  obtain ⟨v, hb, hg, ho⟩ := hI
  have hlt : g < w.heap.size := (Array.getElem?_eq_some_iff.1 hb).1
  have hcell := cell_of_one hb
  have hfree := free_of_one hb
  have HO := Lib.hid ho
  have HB := Lib.hid hB
  have Hb := Lib.hid hb
  have hsz : (bytesOf s).length = s.size := bytesOf_length s
  obtain ⟨A, c, rfl⟩ := own_slice ho
  have hbase := hB.size
  have HS := Lib.hid hsz
  have HO' : Hid (w.ownsRow w0.heap.size 5 1 (.slice A s.size c) (bytesOf s).length (nums .u8 (bytesOf s))) := by rw [HS.out]; exact HO.out
  have hL : Hid (∀ w, Calls Try.prog 80 #[.int .u64 n] w fun e w' => e = .returned (.int .i64 (Lib.bitLen n.toNat)) ∧ w = w') := fun w => (Try.bits_Len64 n w (by omega) h1).mono fun _ _ ⟨a, b⟩ => ⟨a, b.symm⟩
  generalize Lib.bitLen n.toNat = L at *
  have hq : ((L : Int) + 7) / 8 = (k : Int) := by have := hlen.out; omega
  clear ho hB hb hsz ht hk
  go_enter Try.func52, Try.ntmps52
  go_wp2_with (first | (go_at_call 80; refine (hL.out _).mono ?_; rintro e w' ⟨rfl, rfl⟩) | (at_builtin; refine halt_ ?_))
  refine Lib.hid ?_
  refine print_append_num (w0 := w0) w0.heap.size rfl (.tmp 29) (.tmp 33) 82 5 .u8 1 rfl Try.underlying82 Try.infoByte (by omega) (.slice A s.size c) (bytesOf s) (247 + (k : Int)) rfl rfl HO'.out HB.out hbase (by rw [HS.out]; omega) ?_
  intro v1 w1 hown hB1 hgr hat
  rw [nums_snoc s (247 + (k : Int)) ⟨by omega, by omega⟩, show s ++ strOfNums [247 + (k : Int)] = t from by rw [HT.out, midW_zero, ← HK.out], bytesOf_length] at hown
  obtain ⟨A1, c1, rfl⟩ := own_slice hown
  have Hend := Lib.hid (w_end (w := w) (t := t) Hb.out hg hlt HO.out hown hB1 hgr hat (KeepW.refl w g))
  have hb1 : w1.heap[g]? = some (.cells #[.slice A s.size c] 112 (0, 0)) := (hgr.block g hlt (own_ne_blk HO.out Hb.out (by decide))).trans Hb.out
  have hcell1 := cell_of_one hb1
  have hfree1 := free_of_one hb1
  clear hown hB1 hgr hat hb1 hcell hfree
  go_wp2
  clear hcell1 hfree1
  go_loopg [5] (k + 1) (fun gk v5 wr => ∃ (j : Nat), j ≤ k ∧ v5 = .int .i64 ((k : Int) - 1 - j) ∧ Aside0 (j + gk = k + 1) ∧ Aside0 (IsS112 w0 wr g (midW s n j) ∧ Below w0.heap.size w0 wr ∧ KeepW w wr g))
  case atStart => exact ⟨0, by omega, by go_num, ⟨by omega⟩, ⟨by rw [← HT.out]; exact Hend.out⟩⟩
  case round =>
    obtain ⟨j, hj, rfl, ⟨hg2⟩, ⟨hI2, hB2, hK2⟩⟩ := hrel
    clear Hend
    rcases (show j < k ∨ k ≤ j by omega) with hlt2 | hge
    · obtain ⟨v, hb, _, ho⟩ := hI2
      have hgw : g < wr.heap.size := (Array.getElem?_eq_some_iff.1 hb).1
      have hcell := cell_of_one hb
      have hfree := free_of_one hb
      have HO2 := Lib.hid ho
      have HB2 := Lib.hid hB2
      have HK2 := Lib.hid hK2
      have Hb2 := Lib.hid hb
      obtain ⟨u, hu⟩ : ∃ u, u = midW s n j := ⟨_, rfl⟩
      obtain ⟨A2, c2, rfl⟩ := own_slice ho
      rw [← hu] at HO2 Hb2 hcell
      have HU := Lib.hid hu
      have hbase2 := hB2.size
      have hus : u.size + 1 ≤ s.size + 9 := by rw [hu, midW_size]; omega
      have HNE : Hid (some g ≠ (Value.slice A2 u.size c2).ownBlock) := own_ne_blk HO2.out Hb2.out (by decide)
      have HUS := Lib.hid hus
      have Hu2 : Hid ((bytesOf u).length = u.size) := bytesOf_length u
      have HO2' : Hid (wr.ownsRow w0.heap.size 5 1 (.slice A2 u.size c2) (bytesOf u).length (nums .u8 (bytesOf u))) := by rw [Hu2.out]; exact HO2.out
      have HG : Hid (j + gk = k + 1) := hg2
      obtain ⟨y, hy⟩ : ∃ y : Int, y = ((n.toNat / 256 ^ (k - 1 - j) % 256 : Nat) : Int) := ⟨_, rfl⟩
      obtain ⟨X, hsh, hc1, hc2⟩ := shift_byte n h0' k j y hlt2 hk8 hy
      have hyb : 0 ≤ y ∧ y ≤ 255 := by omega
      have HY := Lib.hid hy
      have HYB := Lib.hid hyb
      have hi0 := infoB
      obtain ⟨i0, hi, hz⟩ := Option.map_eq_some_iff.1 hi0
      simp only [Prod.mk.injEq] at hz
      have HZ := Lib.hid hz
      have HI := Lib.hid hi
      clear ho hB2 hK2 hb hu hg2 hy hyb hi0 hi hz
      go_wp2
      go_region_law ((refine step_append_lies _ (by rfl) (.tmp 47) (.tmp 53) 82 (by rfl) w0.heap.size 5 i0 (.int .u8 0) 1 1 Try.underlying82 HI.out HZ.out.1 HZ.out.2.1 HZ.out.2.2 (by rfl) (by omega) (.slice A2 u.size c2) u.size (nums .u8 (bytesOf u)) (by rfl) (HO2.out.drew.alloc _) ⟨wr.heap.size, 0, none⟩ 1 1 [.int .u8 y] (by rfl) (by rfl) (World.news_of_block (heap_alloc_new _ _)) (by intro u hu; simp at hu; subst hu; rfl) (by omega) (by unfold maxLen; omega) (by omega) (by simp; omega) (wr.heap.size + 1) (by simp) ?_; intro g3 c3 w3 hown3 hgr3 hat3 hlt3; have hce3 : w3.cell? ⟨g, 0, none⟩ = some (.slice A2 u.size c2) := (hgr3.cell_far _ (by simp; omega) HNE.out).trans ((World.cell?_alloc_lt wr.drew _ _ hgw).trans hcell); have hfr3 : w3.frozen? ⟨g, 0, none⟩ = false := (hgr3.frozen_far _ (by simp; omega) HNE.out).trans ((frozen?_alloc_cells wr.drew _ _ _).trans hfree)))
      all_goals
        have hgr4 : wr.grownBy w3 (Value.slice A2 u.size c2).ownBlock := grown_drew (World.grownBy.trans (World.grownBy_alloc wr.drew _ _) hgr3)
        have Hend := Lib.hid (w_round Hb2.out hg HO2.out hown3 hgr4 hat3 HB2.out hbase2 HK2.out HYB.out)
        have Hs : Hid (u ++ strOfNums [y] = midW s n (j + 1)) := by show _ = _; rw [midW_succ, HU.out, HY.out, ← HK.out]
        clear hown3 hgr3 hgr4 hat3 hce3 hfr3 hcell hfree hsh hc1 hc2
        go_wp2
        go_roundg (gk - 1)
        case measure => have := HG.out; omega
        case rel => exact ⟨j + 1, by omega, by go_num, ⟨by have := HG.out; omega⟩, ⟨by rw [← Hs.out]; exact Hend.out⟩⟩
    · obtain rfl : k = j := by omega
      have Hf : Hid (IsS112 w0 wr g (s ++ encB n) ∧ Below w0.heap.size w0 wr ∧ KeepW w wr g) := by rw [← Hall.out]; exact ⟨hI2, hB2, hK2⟩
      clear hI2 hB2 hK2 hg2
      go_wp2
      go_end0
      exact ⟨rfl, Hf.out⟩
end Go.Proofs.Ytccdmedhkbabpaa
/- pack.Writer's Text and Bytes: a text is written with its length; all that was written. Conditions: those that each theorem names. -/
namespace Go.Proofs.Ytccdmedhkbabpaa
open Go.RowKit Go.Proofs.YtccdmedhkbabpaaW.PrintWords

section
variable {P : Program} (w : World)
/-- Where the new slice lies: on the old row, or in a new block. -/
theorem append_str_at (base : Nat) (t u ty e : TypeId) (i : TypeInfo) (ht : P.underlying t = some (.slice e)) (hu : P.underlying u = some .string) (hi : P.info? e = some i) (hz : i.zero = some (.int .u8 0))
    (hsize : i.size = 1) (hby : i.bytes = 1) (v : Value) (n : Nat) (xs : List Value) (hown : w.ownsRow base e 1 v n xs) (s : ByteArray)
    (h63 : n + s.size ≤ maxLen) (hbytes : n + s.size ≤ 140737488355328) (hbase : base ≤ w.heap.size) {v' : Value} {w' : World} (hr : (Builtin.append_ #[t, u] ty #[v, .string s]).run P w = .ok v' w') :
    v'.ownBlock = v.ownBlock ∨ v'.ownBlock = some w.heap.size := by
  have hsmall : n + s.size ≤ 9223372036854775807 := by simp only [maxLen] at h63; omega
  have hxl : xs.length = n := by simpa using hown.1
  obtain ⟨v2, w2, hr2, _, _, hnil⟩ := Lib.run_append_own_string (P := P) w base t u ty e i ht hu hi hz hsize hby v n xs hown s h63 hbytes hbase
  rw [hr] at hr2
  injection hr2 with hv _
  subst hv
  rcases hown.2 with ⟨rfl, rfl⟩ | ⟨g, cap, cur, rfl, hbg, hg, hnc, hcm, hcs, htake⟩
  · by_cases hm : s.size = 0
    · exact .inl (by rw [hnil.2 ⟨rfl, hm⟩])
    · have h := run_append_nil_string (P := P) w t u ty e i (.int .u8 0) ht hu hi hz s (by omega) (by omega) (by rw [hby]; omega)
      rw [hr] at h
      injection h with h _
      exact .inr (by rw [h]; rfl)
  · by_cases hroom : n + s.size ≤ cap
    · have hcs' : cur.size = cap := by simpa using hcs
      have h := Lib.run_append_room_string (P := P) w t u ty e i ht hu hi hsize g n cap cur hg s hroom (by omega)
      rw [hr] at h
      injection h with h _
      exact .inl (by rw [h]; rfl)
    · have holds : ∀ j u, xs[j]? = some u → w.cell? ((⟨g, 0, none⟩ : Addr).add j) = some u := hown.cells (g := g) rfl
      have h := Lib.run_append_grow_string (P := P) w t u ty e i (.int .u8 0) ht hu hi hz ⟨g, 0, none⟩ n cap xs (by rw [hsize]; simpa using hxl) holds s (by omega) (by omega) (by rw [hby]; exact growslice_fits (by omega) (by omega))
      rw [hr] at h
      injection h with h _
      exact .inr (by rw [h]; rfl)
end

section
variable {P : Program} {ops : Array Oper} {rest : List Oper} {o : Oper} {a : Act} {Q : Exit → Act → World → Prop}
theorem append_str2 {w0 W : World} (base : Nat) (hgd : o.guard = none) (s x : Operand) (t u e : TypeId)
    (ho : o.op = .call { callee := .builtin .append, args := #[s, x], argTypes := #[t, u] })
    (ht : P.underlying t = some (.slice e)) (hu : P.underlying u = some .string) (hinfo : (P.info? e).map (fun i => (i.zero, i.size, i.bytes)) = some (some (.int .u8 0), 1, 1))
    (v : Value) (z y : ByteArray) (hs : a.eval s = v) (hx : a.eval x = .string y)
    (HO : W.ownsRow base e 1 v z.size (nums .u8 (bytesOf z))) (HB : Below base w0 W) (hbase : base ≤ W.heap.size) (hl : z.size + y.size ≤ 140737488355328)
    (h : ∀ v1 w1, w1.ownsRow base e 1 v1 (z ++ y).size (nums .u8 (bytesOf (z ++ y))) → Below base w0 w1 → W.grownBy w1 v.ownBlock → (v1.ownBlock = v.ownBlock ∨ ∃ b, v1.ownBlock = some b ∧ W.heap.size ≤ b) → wpList P ops Q rest (a.put o.dst v1) w1) :
    wpList P ops Q (o :: rest) a W := by
  obtain ⟨i0, hi, hzz⟩ := Option.map_eq_some_iff.1 hinfo
  simp only [Prod.mk.injEq] at hzz
  obtain ⟨hz0, hz1, hz2⟩ := hzz
  refine wpList_plain hgd fun K hK => ?_
  obtain ⟨v1, w1, hr, h2, h3, h4⟩ := Lib.run_append_own_string (P := P) W base t u o.type e i0 ht hu hi hz0 hz1 hz2 v z.size _ HO y (by simp only [maxLen]; omega) hl hbase
  have hat := append_str_at (P := P) W base t u o.type e i0 ht hu hi hz0 hz1 hz2 v z.size _ HO y (by simp only [maxLen]; omega) hl hbase hr
  unfold Oper.wp execOp
  simp only [ho, resolve, invoke, builtin, Sem.run_bind, Sem.run_pure, Result.andThen_ok, List.map_toArray, List.map_cons, List.map_nil, hs, hx, hr]
  refine hK _ _ (h v1 w1 ?_ (HB.grown h3 hbase (own_base HO)) h3 ?_)
  · rw [ByteArray.size_append, bytesOf_append]
    have e : nums .u8 (bytesOf z ++ bytesOf y) = nums .u8 (bytesOf z) ++ Lib.strCells y := by
      simp [nums, Lib.strCells, bytesOf]
    rw [e]
    exact h2
  · rcases hat with hat | hat
    · exact .inl hat
    · exact .inr ⟨_, hat, Nat.le_refl _⟩
end

/-- Number, of whatever number. -/
theorem wnum (w0 w : World) (g : Nat) (s : ByteArray) (n : Int) (h0 : 0 ≤ n) (h1 : n ≤ 18446744073709551615) (hI : IsS112 w0 w g s) (hB : Below w0.heap.size w0 w) (hl : s.size + 9 ≤ 140737488355328) :
    Calls Try.prog 52 #[.pointer (some ⟨g, 0, none⟩), .int .u64 n] w fun e w' => e = .returned (.tuple #[]) ∧ IsS112 w0 w' g (s ++ encB n) ∧ Below w0.heap.size w0 w' ∧ KeepW w w' g := by
  rcases (show n < 248 ∨ 248 ≤ n by omega) with h | h
  · have e : encB n = strOfNums [n] := by unfold encB encN; rw [if_pos h]
    rw [e]
    exact wnum_small w0 w g s n h0 h hI hB hl
  · exact wnum_big w0 w g s n h h1 hI hB hl

set_option maxHeartbeats 2000000 in
theorem wtext (w0 w : World) (g : Nat) (s x : ByteArray) (hI : IsS112 w0 w g s) (hB : Below w0.heap.size w0 w) (hl : s.size + 9 + x.size ≤ 140737488355328) :
    Calls Try.prog 81 #[.pointer (some ⟨g, 0, none⟩), .string x] w fun e w' => e = .returned (.tuple #[]) ∧ IsS112 w0 w' g (s ++ encB x.size ++ x) ∧ Below w0.heap.size w0 w' ∧ KeepW w w' g := by
  have HN := Lib.hid (wnum w0 w g s x.size (by omega) (by omega) hI hB (by omega))
  obtain ⟨u, hu⟩ : ∃ u, u = s ++ encB x.size := ⟨_, rfl⟩
  rw [← hu]
  rw [← hu] at HN
  have hus : u.size + x.size ≤ 140737488355328 := by rw [hu, ByteArray.size_append]; have := encB_size (n := x.size) (by omega); omega
  obtain ⟨z, hz⟩ : ∃ z, z = u ++ x := ⟨_, rfl⟩
  rw [← hz]
  have HZ := Lib.hid hz
  clear hI hB hu hz
  go_enter Try.func81, Try.ntmps81
  go_wp2_with fail
  refine HN.out.mono ?_
  rintro e w1 ⟨rfl, hI1, hB1, hK1⟩
  obtain ⟨v, hb, hg, ho⟩ := hI1
  have hlt : g < w1.heap.size := (Array.getElem?_eq_some_iff.1 hb).1
  have hcell := cell_of_one hb
  have hfree := free_of_one hb
  have HO := Lib.hid ho
  have HB := Lib.hid hB1
  have Hb := Lib.hid hb
  have HK := Lib.hid hK1
  obtain ⟨A, c, rfl⟩ := own_slice ho
  have hbase := hB1.size
  clear ho hB1 hb hK1 HN
  go_wp2_with (at_builtin; refine halt_ ?_)
  refine Lib.hid ?_
  refine append_str2 (w0 := w0) w0.heap.size rfl (.tmp 15) (.tmp 16) 82 9 5 rfl Try.underlying82 Try.underlying9 Try.infoByte (.slice A u.size c) u x rfl rfl HO.out HB.out hbase (by omega) ?_
  intro v1 w2 hown hB2 hgr hat
  rw [← HZ.out] at hown
  obtain ⟨A1, c1, rfl⟩ := own_slice hown
  have Hend := Lib.hid (w_end (w := w) (t := z) Hb.out hg hlt HO.out hown hB2 hgr hat HK.out)
  have hb1 : w2.heap[g]? = some (.cells #[.slice A u.size c] 112 (0, 0)) := (hgr.block g hlt (own_ne_blk HO.out Hb.out (by decide))).trans Hb.out
  have hcell1 := cell_of_one hb1
  have hfree1 := free_of_one hb1
  clear hown hB2 hgr hat hb1 hcell hfree
  go_wp2
  go_end0
  exact ⟨rfl, Hend.out⟩

theorem wbytes (w0 w : World) (g : Nat) (s : ByteArray) (hI : IsS112 w0 w g s) (hB : Below w0.heap.size w0 w) :
    Calls Try.prog 53 #[.pointer (some ⟨g, 0, none⟩)] w fun e w' => e = .returned (.string s) ∧ IsS112 w0 w' g s ∧ Below w0.heap.size w0 w' ∧ KeepW w w' g := by
  have HI := Lib.hid hI
  have HB := Lib.hid hB
  obtain ⟨v, hb, hg, ho⟩ := hI
  have hcell := cell_of_one hb
  have hfree := free_of_one hb
  have hcv : ∀ n, (convert 82 9 v).run Try.prog (w.drewN n) = .ok (.string s) (w.drewN n) := by
    intro n
    have h := own_string (P := Try.prog) (w := w.drewN n) (src := 82) (dst := 9) (e := 5) Try.underlying82 Try.underlying5 Try.underlying9 (show (w.drewN n).ownsRow w0.heap.size 5 1 v s.size (nums .u8 (bytesOf s)) from ho)
    rw [nums_bytesOf] at h
    exact h
  have hcv0 := hcv 0
  have hcv1 : (convert 82 9 v).run Try.prog w = .ok (.string s) w := hcv0
  clear ho hb hB hcv0
  go_enter Try.func53, Try.ntmps53
  go_wp2
  go_ret
  exact ⟨rfl, HI.out, HB.out, KeepW.refl _ _⟩
end Go.Proofs.Ytccdmedhkbabpaa
/- pack's Reader and Writer as the frame needs them: contracts, what is read of what was written, what a call of the one keeps of the other. Conditions: those that each theorem names. -/
namespace Go.Proofs.Ytccdmedhkbabpaa
open Go.RowKit Go.Proofs.YtccdmedhkbabpaaW.PrintWords PRd

theorem numR_facts (s : ByteArray) (m : Int) (hm : 0 ≤ m) : 0 ≤ (numR s m).1 ∧ (numR s m).1 ≤ m ∧ (numR s m).2.1.size ≤ s.size ∧ ((numR s m).2.2 = 0 ∨ (numR s m).1 = 0 ∧ (numR s m).2.1 = ByteArray.empty) := by
  have hr := bt_range s 0
  have hfin : ∀ (v : Int) (sz : Nat), 0 ≤ v → 0 ≤ (numFin s m v sz).1 ∧ (numFin s m v sz).1 ≤ m ∧ (numFin s m v sz).2.1.size ≤ s.size ∧ ((numFin s m v sz).2.2 = 0 ∨ (numFin s m v sz).1 = 0 ∧ (numFin s m v sz).2.1 = ByteArray.empty) := by
    intro v sz hv
    unfold numFin
    split
    · refine ⟨hv, by assumption, ?_, .inl rfl⟩
      show (s.extract sz s.size).size ≤ s.size
      rw [ByteArray.size_extract]; omega
    · exact ⟨by decide, hm, Nat.zero_le _, .inr ⟨rfl, rfl⟩⟩
  unfold numR
  split
  · exact ⟨by decide, hm, Nat.zero_le _, .inr ⟨rfl, rfl⟩⟩
  · split
    · exact hfin _ _ hr.1
    · split
      · exact ⟨by decide, hm, Nat.zero_le _, .inr ⟨rfl, rfl⟩⟩
      · unfold numBig
        split
        · exact ⟨by decide, hm, Nat.zero_le _, .inr ⟨rfl, rfl⟩⟩
        · exact hfin _ _ (by omega)
theorem rdNum_facts (s : ByteArray) (er m : Int) (hm : 0 ≤ m) : 0 ≤ (rdNum s er m).1 ∧ (rdNum s er m).1 ≤ m ∧ (rdNum s er m).2.1.size ≤ s.size := by
  unfold rdNum
  split
  · have := numR_facts s m hm; exact ⟨this.1, this.2.1, this.2.2.1⟩
  · exact ⟨Int.le_refl 0, hm, Nat.le_refl _⟩
theorem u64_id (x : Int) (h0 : 0 ≤ x) (h1 : x ≤ 9223372036854775807) : IntKind.u64.wrap x = x := by
  have e : IntKind.u64.wrap x = x % 18446744073709551616 := rfl
  rw [e]; omega
section
variable {w0 w : World} {g : Nat} {s : ByteArray} {er : Int}
/-- What each of the Reader's functions leaves. -/
abbrev Left_ (w0 w w' : World) (g : Nat) (s : ByteArray) (er : Int) : Prop := IsS136 w0 w' g s er ∧ Below w0.heap.size w0 w' ∧ KeepBut w w' g none
theorem rleft (hI : IsS136 w0 w g s er) (hB : Below w0.heap.size w0 w) :
    Calls Try.prog 76 #[.pointer (some ⟨g, 0, none⟩)] w fun e w' => e = .returned (.int .i64 (s.size : Int)) ∧ Left_ w0 w w' g s er :=
  pack_Reader_Left.calls g s er _ _ _ w0 w hI hB rfl
theorem rerr (hI : IsS136 w0 w g s er) (hB : Below w0.heap.size w0 w) :
    Calls Try.prog 75 #[.pointer (some ⟨g, 0, none⟩)] w fun e w' => e = .returned (.int .i64 er) ∧ Left_ w0 w w' g s er :=
  PRd.pack_Reader_Err.calls g s er _ _ _ w0 w hI hB rfl
theorem rnew (s : ByteArray) (hB : Below w0.heap.size w0 w) :
    Calls Try.prog 72 #[.string s] w fun e w' => ∃ g, e = .returned (.pointer (some ⟨g, 0, none⟩)) ∧ IsS136 w0 w' g s 0 ∧ Below w0.heap.size w0 w' ∧ Below w.heap.size w w' ∧ w.heap.size ≤ g := by
  refine (pack_NewReader.calls s s 0 w w (Below.refl _ _) rfl).mono ?_
  rintro e w' ⟨g, h1, h2, h3, h4⟩
  exact ⟨g, h1, ⟨h2.1, Nat.le_trans hB.size h2.2⟩, below_step hB h4, h4, h2.2⟩
end

theorem extract_right (a b : ByteArray) (n m : Nat) (h : n = a.size) (hm : m = a.size + b.size) : (a ++ b).extract n m = b := by
  apply bytes_ext
  rw [bytesOf_extract, bytesOf_append, List.take_of_length_le (by rw [List.length_append, bytesOf_length, bytesOf_length]; omega), List.drop_left' (by rw [bytesOf_length, h])]
theorem extract_both (s : ByteArray) (n : Nat) : s = s.extract 0 n ++ s.extract n s.size := by
  apply bytes_ext
  rw [bytesOf_append, bytesOf_extract, bytesOf_extract, ← bytesOf_length, List.take_length, List.drop_zero, List.take_append_drop]
/-! ### Behind an error nothing is left -/
/-! ### What was read stood there -/
theorem rdNum_inv (s : ByteArray) (er m : Int) (h : (rdNum s er m).2.2 = 0) : er = 0 ∧ s = encB (rdNum s er m).1 ++ (rdNum s er m).2.1 ∧ 0 ≤ (rdNum s er m).1 ∧ (rdNum s er m).1 ≤ m ∧ (rdNum s er m).1 ≤ 18446744073709551615 := by
  unfold rdNum at *
  split at h
  · rename_i h0
    rw [if_pos h0]
    obtain ⟨a, b, c, d⟩ := numR_inv s m (numR s m).1 (numR s m).2.1 (by rw [← h])
    exact ⟨h0, a, b, c, d⟩
  · rename_i h0
    exact absurd h h0
/-! ### What was written is read -/
theorem rdNum_enc (n m : Int) (t : ByteArray) (h0 : 0 ≤ n) (h1 : n ≤ 18446744073709551615) (hm : n ≤ m) : rdNum (encB n ++ t) 0 m = (n, t, 0) := by
  unfold rdNum
  rw [if_pos rfl, numR_enc n m t h0 h1, if_pos hm]

end Go.Proofs.Ytccdmedhkbabpaa
/- frame.Sum is the sum; frame.body is a payload's length and the payload. Condition: how long the text is at most. -/
namespace Go.Proofs.Ytccdmedhkbabpaa
open Go.RowKit Go.Proofs.YtccdmedhkbabpaaW.PrintWords

set_option maxRecDepth 100000 in
set_option maxHeartbeats 4000000 in
theorem sum_calls (s : ByteArray) (hs : s.size ≤ 281474976710656) (w : World) : Calls Try.prog 59 #[.string s] w fun e w' => e = .returned (.int .u32 (sumN s : Int)) ∧ Below w.heap.size w w' := by
  have hX0 : (w.alloc (.cells (tabC 0) 134)).heap[w.heap.size]? = some (.cells (tabC 0) 134 (0, 0)) := heap_alloc_new w _
  have HX0 := Lib.hid hX0
  have HB0 := Lib.hid (below_alloc' (Below.refl w.heap.size w) (.cells (tabC 0) 134))
  rw [tabC_zero] at HB0
  clear hX0
  go_enter Try.func59, Try.ntmps59
  go_wp2_with fail
  go_loopg [9] 17 (fun gk v9 wr => ∃ (i : Nat), i ≤ 16 ∧ v9 = .int .i64 (i : Int) ∧ Aside0 (i + gk = 17) ∧ Aside0 (wr.heap[w.heap.size]? = some (.cells (tabC i) 134 (0, 0)) ∧ Below w.heap.size w wr))
  case atStart => exact ⟨0, Nat.zero_le _, rfl, ⟨by omega⟩, ⟨HX0.out, HB0.out⟩⟩
  case round =>
    obtain ⟨i, hi, rfl, ⟨hg⟩, ⟨hX, hB⟩⟩ := hrel
    clear HX0 HB0
    have HX := Lib.hid hX
    have HB := Lib.hid hB
    have HG := Lib.hid hg
    clear hX hB hg
    rcases (show i < 16 ∨ i = 16 by omega) with hlt | hlt
    · have cX : wr.cell? ⟨w.heap.size, i, none⟩ = some (.int .u32 0) := by
        rw [blk_cell HX.out i, tabC_get _ _ hlt, if_neg (by omega)]; rfl
      have fX := blk_frozen HX.out i
      go_wp2_with fail
      cases gk with
      | zero => exact absurd HG.out (by omega)
      | succ g1 =>
      go_loopg [5, 14] 5 (fun gq v5 v14 wx => ∃ (j : Nat), j ≤ 4 ∧ v5 = .int .u32 ((shn j i : Nat) : Int) ∧ v14 = .int .i64 (j : Int) ∧ Aside0 (j + gq = 5) ∧ Drawn0 wr wx)
      case atStart => exact ⟨0, Nat.zero_le _, rfl, rfl, ⟨by omega⟩, by repeat (first | exact Drawn0.refl _ | apply Drawn0.step)⟩
      case round =>
        obtain ⟨j, hj, rfl, rfl, ⟨hgq⟩, ⟨m1, rfl⟩⟩ := hrel
        have HGQ := Lib.hid hgq
        clear hgq
        have hx := shn_lt j (x := i) (by omega)
        rcases (show j < 4 ∨ j = 4 by omega) with hj4 | hj4
        · have hsv := Lib.hid (sh_val _ hx)
          have HS : Hid (sh (shn j i) = shn (j + 1) i) := rfl
          generalize shn j i = x at *
          go_wp2
          go_roundg (gk - 1)
          case measure => have := HGQ.out; omega
          case rel => exact ⟨j + 1, by omega, by first | (rw [← HS.out, ← hsv.out]; done) | (rw [← HS.out, ← hsv.out]; go_num), by go_num, ⟨by have := HGQ.out; omega⟩, by repeat (first | exact Drawn0.refl _ | apply Drawn0.step)⟩
        · subst hj4
          have HY : Hid ((tabC i).setIfInBounds i (.int .u32 ((shn 4 i : Nat) : Int)) = tabC (i + 1)) := tabC_set i hlt
          generalize shn 4 i = y at *
          have HX1 : Hid (((wr.drewN m1).setCell ⟨w.heap.size, i, none⟩ (.int .u32 (y : Int))).heap[w.heap.size]? = some (.cells (tabC (i + 1)) 134 (0, 0)) ∧ Below w.heap.size w ((wr.drewN m1).setCell ⟨w.heap.size, i, none⟩ (.int .u32 (y : Int)))) := by
            refine ⟨?_, (pw_below_drewN HB.out m1).setCell (Nat.le_refl _) _⟩
            rw [← HY.out]
            have h : (wr.drewN m1).heap[w.heap.size]? = _ := HX.out
            simp only [World.setCell, Array.getElem?_modify, h]
            simp
          go_wp2
          go_roundg g1
          case measure => have := HG.out; omega
          case rel => exact ⟨i + 1, by omega, by go_num, ⟨by have := HG.out; omega⟩, ⟨HX1.out⟩⟩
    · subst hlt
      have kb := fun W => print_bytes (P := Try.prog) 9 82 5 Try.underlying9 Try.underlying82 Try.underlying5 s W
      have HBW := Lib.hid (bytes_below HB.out HB.out.size 5 s)
      have hne := HB.out.size
      have hlt : w.heap.size < wr.heap.size := (Array.getElem?_eq_some_iff.1 HX.out).1
      have HT := Lib.hid ((Lib.bytesWorld_at_old wr 5 s w.heap.size hlt).trans HX.out)
      have HC : Hid (∀ (i : Nat) (h : i < s.size), (Lib.bytesWorld wr 5 s).cell? ⟨wr.heap.size, i, none⟩ = some (.int .u8 (((natsOf s)[i]'(by rw [natsOf_length]; exact h) : Nat) : Int))) := by
        intro i h
        rw [Lib.bytesWorld_cell wr 5 s i h]
        have h' : i < s.data.toList.length := by rw [data_length]; exact h
        simp [natsOf, List.getD_eq_getElem?_getD, h]
      go_wp2_with fail
      generalize Lib.bytesWorld wr 5 s = wb at *
      generalize wr.heap.size = bb at *
      clear kb HX HB hne hlt hi HG
      go_loopg [6, 30] (s.size + 1) (fun gk v6 v30 wx => ∃ (i : Nat), i ≤ s.size ∧ v6 = .int .u32 ((sumS 4294967295 ((natsOf s).take i) : Nat) : Int) ∧ v30 = .int .i64 (i : Int) ∧ Aside0 (i + gk = s.size + 1) ∧ Drawn0 wb wx)
      case atStart => exact ⟨0, Nat.zero_le _, rfl, rfl, ⟨by omega⟩, by repeat (first | exact Drawn0.refl _ | apply Drawn0.step)⟩
      case round =>
        obtain ⟨i, hi, rfl, rfl, ⟨hg⟩, ⟨m1, rfl⟩⟩ := hrel
        have HG := Lib.hid hg
        clear hg
        have hlx := sumS_lt (x := 4294967295) (by decide) ((natsOf s).take i) (fun b hb => natsOf_lt s b (List.mem_of_mem_take hb))
        rcases (show i < s.size ∨ i = s.size by omega) with hlt | hlt
        · have hil : i < (natsOf s).length := by rw [natsOf_length]; exact hlt
          have cb : (wb.drewN m1).cell? ⟨bb, i, none⟩ = some (.int .u8 (((natsOf s)[i] : Nat) : Int)) := HC.out i hlt
          have hbl := natsOf_lt s _ (List.getElem_mem hil)
          have HS : Hid (sumS 4294967295 ((natsOf s).take (i + 1)) = byteStep (sumS 4294967295 ((natsOf s).take i)) (natsOf s)[i]) := by
            show sumS 4294967295 ((natsOf s).take (i + 1)) = _
            rw [List.take_succ_eq_append_getElem hil, sumS_snoc]
          generalize (natsOf s)[i] = b at *
          generalize sumS 4294967295 ((natsOf s).take i) = x at *
          have hx1 := xor_u32 x b hlx (by omega)
          have hl1 := xor_lt hlx (show b < 4294967296 by omega)
          have HE : Hid (byteStep x b = nib (nib (x ^^^ b))) := rfl
          generalize x ^^^ b = x1 at *
          have ha1 := and15_u32 x1 hl1
          have hj1 := Nat.mod_lt x1 (show 16 > 0 by decide)
          have c1 : (wb.drewN m1).cell? ⟨w.heap.size, x1 % 16, none⟩ = some (.int .u32 ((sh4 (x1 % 16) : Nat) : Int)) := by
            refine (blk_cell (w := wb) HT.out (x1 % 16)).trans ?_
            rw [tabC_get _ _ hj1, if_pos hj1]
          have hn1 := nib_val x1 _ hl1 rfl
          have hl2 := nib_lt hl1
          generalize sh4 (x1 % 16) = t1 at *
          generalize x1 % 16 = j1 at *
          generalize nib x1 = x2 at *
          have ha2 := and15_u32 x2 hl2
          have hj2 := Nat.mod_lt x2 (show 16 > 0 by decide)
          have c2 : (wb.drewN m1).cell? ⟨w.heap.size, x2 % 16, none⟩ = some (.int .u32 ((sh4 (x2 % 16) : Nat) : Int)) := by
            refine (blk_cell (w := wb) HT.out (x2 % 16)).trans ?_
            rw [tabC_get _ _ hj2, if_pos hj2]
          have hn2 := nib_val x2 _ hl2 rfl
          have hl3 := nib_lt hl2
          generalize sh4 (x2 % 16) = t2 at *
          generalize x2 % 16 = j2 at *
          generalize nib x2 = x3 at *
          go_wp2
          go_roundg (gk - 1)
          case measure => have := HG.out; omega
          case rel => exact ⟨i + 1, by omega, by rw [HS.out, HE.out], by go_num, ⟨by have := HG.out; omega⟩, by repeat (first | exact Drawn0.refl _ | apply Drawn0.step)⟩
        · subst hlt
          have HS : Hid (((natsOf s).take s.size) = natsOf s) := by
            show (natsOf s).take s.size = natsOf s
            rw [← natsOf_length, List.take_length]
          rw [HS.out] at hlx ⊢
          have hr : Go.bits .xor .u32 IntKind.u32.max ((sumS 4294967295 (natsOf s) : Nat) : Int) = (sumN s : Int) := by
            rw [sumN, Nat.xor_comm, ← xor_u32 4294967295 _ (by decide) hlx]
            rfl
          go_wp2
          go_ret
          exact ⟨rfl, pw_below_drewN HBW.out m1⟩


/-- A payload's length and the payload. -/
def encT (p : ByteArray) : ByteArray := encB p.size ++ p
set_option maxRecDepth 100000 in
set_option maxHeartbeats 4000000 in
theorem body_calls (p : ByteArray) (hp : p.size ≤ 140737488355000) (w : World) : Calls Try.prog 57 #[.string p] w fun e w' => e = .returned (.string (encT p)) ∧ Below w.heap.size w w' := by
  have HW1 := Lib.hid (IsS112.made w w (Nat.le_refl _))
  have HB1 := Lib.hid (below_alloc' (Below.refl w.heap.size w) (.cells #[.slice none 0 0] 112))
  have HE : Hid (ByteArray.empty ++ encB p.size ++ p = encT p) := by show _ = encB p.size ++ p; rw [ByteArray.empty_append]
  go_enter Try.func57, Try.ntmps57
  go_wp2_with fail
  generalize w.alloc (.cells #[.slice none 0 0] 112) = w1 at *
  refine (wtext w _ w.heap.size _ p HW1.out HB1.out (by show 0 + 9 + p.size ≤ _; omega)).mono ?_
  rintro e w2 ⟨rfl, hW, hB, hk⟩
  rw [HE.out] at hW
  have HW2 := Lib.hid hW
  have HB2 := Lib.hid hB
  clear hW hB hk HW1 HB1
  go_wp2_with fail
  refine (wbytes w _ w.heap.size _ HW2.out HB2.out).mono ?_
  rintro e w3 ⟨rfl, hW, hB, hk⟩
  have HB3 := Lib.hid hB
  clear hW hB hk HW2 HB2
  go_wp2
  go_ret
  exact ⟨rfl, HB3.out⟩
end Go.Proofs.Ytccdmedhkbabpaa
/- Contracts of Go functions and what each computes, as plain Lean functions: written by a program of this session over the kit's own print. Conditions: those that each theorem names. -/
namespace Go.Proofs.Ytccdmedhkbabpaa.PRf
open Go.RowKit Go.Proofs.YtccdmedhkbabpaaW.PrintWords Go.Proofs.YtccdmedhkbabpaaW.PrintLast Go.Proofs.YtccdmedhkbabpaaW.PrintMore
attribute [local go_sem] max2_int min2_int max_two min_two max_three min_three max_four min_four   -- for this text's walks alone



def errW : Option Int → Value
  | none => .nilIface
  | some c => .iface 0 (.int .i64 c)
theorem errW_none : errW none = .nilIface := rfl
theorem errW_some (c : Int) : errW (some c) = .iface 0 (.int .i64 c) := rfl

theorem info5 : (Try.prog.info? 5).map (fun i => (i.zero, i.size, i.bytes)) = some (some (.int .u8 0), 1, 1) := by kernel_rfl
-- the values' own types

end Go.Proofs.Ytccdmedhkbabpaa.PRf

/- Contracts of Go functions and what each computes, as plain Lean functions: written by a program of this session over the kit's own print. Conditions: those that each theorem names. -/
namespace Go.Proofs.Ytccdmedhkbabpaa.PRf
open Go.RowKit Go.Proofs.YtccdmedhkbabpaaW.PrintWords Go.Proofs.YtccdmedhkbabpaaW.PrintLast Go.Proofs.YtccdmedhkbabpaaW.PrintMore
attribute [local go_sem] max2_int min2_int max_two min_two max_three min_three max_four min_four   -- for this text's walks alone

/-! ### dovecoteref02_Number: function 67 -/
def dovecoteref02_Number.l0 : Nat → List Int → Int → Option (ByteArray)
  | 0, _, _ => none
  | k + 1, x3, x4 => if x4 > 0 then ((some (([(Int.tmod x4 256) % 256] : List Int) : List Int)).bind fun y104 => (if y104.length + x3.length < 140737488355328 then (dovecoteref02_Number.l0 k (y104 ++ x3) (IntKind.u64.wrap (Int.tdiv x4 256))) else (none))) else ((some (([(wrap64 (247 + (x3.length : Int))) % 256] : List Int) : List Int)).bind fun y110 => (if (strOfNums y110).size + (strOfNums x3).size ≤ 9223372036854775807 then (some ((strOfNums y110) ++ (strOfNums x3))) else (none)))
def dovecoteref02_Number.f (k : Nat) (a0 : Int) : Option (ByteArray) := if a0 < 248 then (some (strOfNums (([(a0) % 256] : List Int)))) else (dovecoteref02_Number.l0 k ([] : List Int) a0)
theorem dovecoteref02_Number.mono_l : ∀ k, (∀ y0 y1, LeO (dovecoteref02_Number.l0 k y0 y1) (dovecoteref02_Number.l0 (k + 1) y0 y1))
  | 0 => fun _ _ r h => by simp [dovecoteref02_Number.l0] at h
  | k + 1 => by
    have ih0 := dovecoteref02_Number.mono_l k
    · intro y0 y1
      unfold dovecoteref02_Number.l0
      repeat' first
      | (with_reducible exact ih0 _ _)
      | (with_reducible exact LeO.refl _)
      | (with_reducible exact LeO.none _)
      | (with_reducible refine LeO.ite ?_ ?_)
      | (with_reducible refine LeO.bind ?_ (fun _ => ?_))
      | exact ih0 _ _
      | exact LeO.none _
      | refine LeO.ite ?_ ?_
      | refine LeO.bind ?_ (fun _ => ?_)
theorem dovecoteref02_Number.mono : ∀ a0 k, LeO (dovecoteref02_Number.f k a0) (dovecoteref02_Number.f (k + 1) a0) := by
  intro a0 k
  have ih0 := dovecoteref02_Number.mono_l k
  unfold dovecoteref02_Number.f
  repeat' first
      | (with_reducible exact ih0 _ _)
      | (with_reducible exact LeO.refl _)
      | (with_reducible exact LeO.none _)
      | (with_reducible refine LeO.ite ?_ ?_)
      | (with_reducible refine LeO.bind ?_ (fun _ => ?_))
      | exact ih0 _ _
      | exact LeO.none _
      | refine LeO.ite ?_ ?_
      | refine LeO.bind ?_ (fun _ => ?_)
set_option maxHeartbeats 8000000 in
set_option maxRecDepth 100000 in
theorem dovecoteref02_Number.calls (k : Nat) (a0 : Int) (r : ByteArray) (w : World) (h : dovecoteref02_Number.f k a0 = some r) :
    Calls Try.prog 67 #[.int .u64 a0] w fun e w' => e = .returned (.string r) ∧ Below w.heap.size w w' := by
  have HB := Aside0.mk (Below.refl w.heap.size w)
  have H : (if a0 < 248 then (some (strOfNums (([(a0) % 256] : List Int)))) else (dovecoteref02_Number.l0 k ([] : List Int) a0)) = some r := h
  clear h
  by_cases c2 : a0 < 248
  · rw [if_pos c2] at H
    have c2b0 : decide (a0 < 248) = true := decide_eq_true c2
    clear c2
    obtain ⟨y101, hy101⟩ : ∃ y_ : List Int, y_ = (([(a0) % 256] : List Int)) := ⟨_, rfl⟩
    replace H : (some (strOfNums y101)) = some r := by first | (rw [hy101]; with_reducible exact H) | (have H2_ := (Option.bind_some _ _).symm.trans H; rw [hy101]; with_reducible exact H2_) | (have H2_ := (Option.bind_some _ _).symm.trans H; with_reducible exact H2_) | with_reducible exact H | (rw [hy101]; exact H) | exact H
    have Ny101 := Aside0.mk hy101
    clear hy101
    obtain rfl := Option.some.inj H
    go_enter Try.func67, Try.ntmps67
    go_wp2_with (first | ((with_reducible refine gate_dst (N := 9) rfl ?_); refine Kd.R_lit (Kd.int .u8) _ 5 ?hg (N := 9) ?hd (xs := ([(a0) % 256] : List Int)) (inner := [.int .u8 ((a0) % 256)]) (ok := fun _ => True) (okp := fun _ => True) ?hr ?hp (fun _ hk => hk) trivial (Below.refl _ _) (Nat.le_refl _) (by simp) ?_; (case hd => rfl); (case hg => rfl); (case hr => first | (go_simp; done) | (go_simp; rfl)); (case hp => exact (Reps.one (show Kd.M (Kd.int .u8) _ _ _ ((a0) % 256) [.int .u8 ((a0) % 256)] from rfl) (Reps.none _ _))); intro v102 w3 ho4 hb hg_ hnew_; clear hg_ hnew_; (first | rw [← Ny101.out] at ho4 | (simp only [Int.reduceToNat] at ho4; rw [← Ny101.out] at ho4)); have n0_ := Aside0.mk (Kd.R_lower ho4 (below_size (by repeat (first | (with_reducible first | exact HB.out | apply below_alloc | apply pw_below_drewN | apply below_drew1) | exact HB.out)))); have n1_ := Aside0.mk (below_step (by repeat (first | (with_reducible first | exact HB.out | apply below_alloc | apply pw_below_drewN | apply below_drew1) | exact HB.out)) hb); clear HB; have HO103 := n0_; have HB := n1_; clear n0_ n1_; clear hb ho4; have hcv5 := own_string (P := Try.prog) Try.underlying82 Try.underlying5 Try.underlying9 (Kd.own_of_R HO103.out)))
    go_ret
    exact ⟨by first | rfl | (simp [errW_none, errW_some] <;> rfl) | (simp [*, errW_none, errW_some] <;> rfl), by repeat (first | (with_reducible first | exact HB.out | apply below_alloc | apply pw_below_drewN | apply below_drew1) | exact HB.out)⟩
  · rw [if_neg c2] at H
    have c2b0 : decide (a0 < 248) = false := decide_eq_false c2
    clear c2
    have H' := Aside0.mk H
    clear H
    go_enter Try.func67, Try.ntmps67
    go_wp2
    go_loopg [3, 4] k (fun kq v3 v4 w' => ∃ (x3_1 : List Int) (x4_1 : Int), v4 = .int .u64 x4_1 ∧ Aside0 (dovecoteref02_Number.l0 kq x3_1 x4_1 = some r) ∧ Aside0 (kq ≤ k) ∧ Aside0 (Kd.R (Kd.int .u8) 5 w' w.heap.size (fun _ => True) v3 x3_1) ∧ Aside0 (Below w.heap.size w w'))
    case atStart => exact ⟨(([] : List Int)), (a0), (by first | rfl | (simp; done) | (simp [*]; done)), H', ⟨Nat.le_refl _⟩, ⟨by first | exact Kd.R_nil _ _ _ _ _ | exact Kd.N_nil _ _ _ _ _ | exact Kd.V_nil _ _ _ _ _ | exact Kd.Q_nil _ _ _ _ _ | exact Kd.S_nil _ _ _ _ _⟩, ⟨by repeat (first | (with_reducible first | exact HB.out | apply below_alloc | apply pw_below_drewN | apply below_drew1) | exact HB.out)⟩⟩
    case round =>
      clear H'
      try clear c2
      try clear c2b0
      try clear p2
      try clear hcv5
      obtain ⟨x3_1, x4_1, rfl, HA, HK1, HO_3, HB⟩ := hrel
      cases gk with
      | zero => exact absurd HA.out (by simp [dovecoteref02_Number.l0])
      | succ k1 =>
        have H := HA.out
        clear HA
        simp only [dovecoteref02_Number.l0] at H
        by_cases c6 : x4_1 > 0
        · rw [if_pos c6] at H
          have c6b0 : decide (0 < x4_1) = true := decide_eq_true c6
          clear c6
          obtain ⟨y104, hy104⟩ : ∃ y_ : List Int, y_ = (([(Int.tmod x4_1 256) % 256] : List Int)) := ⟨_, rfl⟩
          replace H : (if y104.length + x3_1.length < 140737488355328 then (dovecoteref02_Number.l0 k1 (y104 ++ x3_1) (IntKind.u64.wrap (Int.tdiv x4_1 256))) else (none)) = some r := by first | (rw [hy104]; with_reducible exact H) | (have H2_ := (Option.bind_some _ _).symm.trans H; rw [hy104]; with_reducible exact H2_) | (have H2_ := (Option.bind_some _ _).symm.trans H; with_reducible exact H2_) | with_reducible exact H | (rw [hy104]; exact H) | exact H
          have Ny104 := Aside0.mk hy104
          clear hy104
          by_cases c7 : y104.length + x3_1.length < 140737488355328
          · rw [if_pos c7] at H
            have LMc7 := Aside0.mk c7
            clear c7
            obtain ⟨y107, hy107⟩ : ∃ y_ : List Int, y_ = (y104 ++ x3_1) := ⟨_, rfl⟩
            replace H : (dovecoteref02_Number.l0 k1 y107 (IntKind.u64.wrap (Int.tdiv x4_1 256))) = some r := by first | (rw [hy107]; with_reducible exact H) | (have H2_ := (Option.bind_some _ _).symm.trans H; rw [hy107]; with_reducible exact H2_) | (have H2_ := (Option.bind_some _ _).symm.trans H; with_reducible exact H2_) | with_reducible exact H | (rw [hy107]; exact H) | exact H
            have Ny107 := Aside0.mk hy107
            clear hy107
            have H' := Aside0.mk H
            clear H
            go_wp2_with (first | ((with_reducible refine gate_dst (N := 19) rfl ?_); refine Kd.R_lit (Kd.int .u8) _ 5 ?hg (N := 19) ?hd (xs := ([(Int.tmod x4_1 256) % 256] : List Int)) (inner := [.int .u8 ((Int.tmod x4_1 256) % 256)]) (ok := fun _ => True) (okp := fun _ => True) ?hr ?hp (fun _ hk => hk) trivial (Below.refl _ _) (Nat.le_refl _) (by simp) ?_; (case hd => rfl); (case hg => rfl); (case hr => first | (go_simp; done) | (go_simp; rfl)); (case hp => exact (Reps.one (show Kd.M (Kd.int .u8) _ _ _ ((Int.tmod x4_1 256) % 256) [.int .u8 ((Int.tmod x4_1 256) % 256)] from rfl) (Reps.none _ _))); intro v105 w8 ho9 hb hg_ hnew_; clear hg_ hnew_; (first | rw [← Ny104.out] at ho9 | (simp only [Int.reduceToNat] at ho9; rw [← Ny104.out] at ho9)); have n0_ := Aside0.mk (Kd.R_elder' (by (with_reducible repeat (first | apply Kd.R_alloc | apply Kd.R_drewN | apply Kd.R_drew)); exact HO_3.out) (Kd.R_base ho9) hb); have n1_ := Aside0.mk (Kd.R_lower (Kd.R_new' ho9 (Kd.R_lt (by (with_reducible repeat (first | apply Kd.R_alloc | apply Kd.R_drewN | apply Kd.R_drew)); exact HO_3.out))) (below_size (by repeat (first | (with_reducible first | exact HB.out | apply below_alloc | apply pw_below_drewN | apply below_drew1) | exact HB.out)))); have n2_ := Aside0.mk (below_step (by repeat (first | (with_reducible first | exact HB.out | apply below_alloc | apply pw_below_drewN | apply below_drew1) | exact HB.out)) hb); clear HO_3; clear HB; have HO_3 := n0_; have HO106 := n1_; have HB := n2_; clear n0_ n1_ n2_; clear hb ho9; obtain ⟨Ao11, co11, eo11⟩ := Kd.R_slice HO_3.out; subst eo11) | ((with_reducible refine gate_builtin (b := .append) (xs := #[.tmp 19, .tmp 20]) rfl ?_); at_builtin; refine Kd.R_append_rows (Kd.int .u8) (w0 := w) w.heap.size rfl (.tmp 19) (.tmp 20) 82 5 (.int .u8 0) 1 rfl Try.underlying82 info5 rfl (by decide) (by omega) v105 y104 x3_1 _ _ _ (fun k_ => some k_ ≠ (.slice Ao11 x3_1.length co11 : Value).ownBlock) (fun _ => False) rfl rfl ?aO ?aR (fun _ _ h => h) (fun _ h => h.elim) ?aF ?aB ?aS ?aL ?_; (case aR => repeat (first | exact (Kd.R_reads' HO_3.out).2.2 | (with_reducible refine Kd.C_alloc ?_ _) | (with_reducible refine Kd.C_drewN ?_ _) | (with_reducible refine Kd.C_drew ?_))); (case aB => exact (by repeat (first | (with_reducible first | exact HB.out | apply below_alloc | apply pw_below_drewN | apply below_drew1) | exact HB.out))); (case aF => exact (fun k_ hk => Kd.fresh' (Kd.R_lt (by (with_reducible repeat (first | apply Kd.R_alloc | apply Kd.R_drewN | apply Kd.R_drew)); exact HO_3.out)) k_ hk)); (case aO => exact (by (with_reducible repeat (first | apply Kd.R_alloc | apply Kd.R_drewN | apply Kd.R_drew)); exact Kd.R_mono HO106.out (fun _ hk => hk.2))); (case aS => exact (below_size (by repeat (first | (with_reducible first | exact HB.out | apply below_alloc | apply pw_below_drewN | apply below_drew1) | exact HB.out)))); (case aL => have := LMc7.out; omega); intro v108 w10 ho hb hg hat; rw [← Ny107.out] at ho; have n0_ := Aside0.mk (Kd.R_after (ok := (fun _ => True)) (by (with_reducible repeat (first | apply Kd.R_alloc | apply Kd.R_drewN | apply Kd.R_drew)); exact HO_3.out) hg hat); have n1_ := Aside0.mk (hb); have n2_ := Aside0.mk (ho); clear HO_3; clear HB; clear HO106; have HO_3 := n0_; have HB := n1_; have HO109 := n2_; clear n0_ n1_ n2_; clear ho hb hg hat))
            go_roundg k1
            case measure => have := HK1.out; omega
            case rel => exact ⟨(y107), (IntKind.u64.wrap (Int.tdiv x4_1 256)), (by first | rfl | (simp; done) | (simp [*]; done)), H', ⟨by have := HK1.out; omega⟩, ⟨by (with_reducible repeat (first | apply Kd.R_alloc | apply Kd.R_drewN | apply Kd.R_drew)); exact Kd.R_mono HO109.out (fun _ hk => trivial)⟩, ⟨by repeat (first | (with_reducible first | exact HB.out | apply below_alloc | apply pw_below_drewN | apply below_drew1) | exact HB.out)⟩⟩
          · rw [if_neg c7] at H
            exact absurd H (by simp)
        · rw [if_neg c6] at H
          have c6b0 : decide (0 < x4_1) = false := decide_eq_false c6
          clear c6
          obtain ⟨y110, hy110⟩ : ∃ y_ : List Int, y_ = (([(wrap64 (247 + (x3_1.length : Int))) % 256] : List Int)) := ⟨_, rfl⟩
          replace H : (if (strOfNums y110).size + (strOfNums x3_1).size ≤ 9223372036854775807 then (some ((strOfNums y110) ++ (strOfNums x3_1))) else (none)) = some r := by first | (rw [hy110]; with_reducible exact H) | (have H2_ := (Option.bind_some _ _).symm.trans H; rw [hy110]; with_reducible exact H2_) | (have H2_ := (Option.bind_some _ _).symm.trans H; with_reducible exact H2_) | with_reducible exact H | (rw [hy110]; exact H) | exact H
          have Ny110 := Aside0.mk hy110
          clear hy110
          by_cases c12 : (strOfNums y110).size + (strOfNums x3_1).size ≤ 9223372036854775807
          · rw [if_pos c12] at H
            have c12b0 := eq_true c12
            have c12b1 : decide ((strOfNums y110).size + (strOfNums x3_1).size ≤ 9223372036854775807) = true := decide_eq_true c12
            try have c12b2 : (9223372036854775807 < (strOfNums y110).size + (strOfNums x3_1).size) = False := eq_false (Nat.not_lt.2 c12)
            obtain rfl := Option.some.inj H
            obtain ⟨Ao13, co13, eo13⟩ := Kd.R_slice HO_3.out
            subst eo13
            go_wp2_with (first | ((with_reducible refine gate_dst (N := 26) rfl ?_); refine Kd.R_lit (Kd.int .u8) _ 5 ?hg (N := 26) ?hd (xs := ([(wrap64 (247 + (x3_1.length : Int))) % 256] : List Int)) (inner := [.int .u8 ((wrap64 (247 + (x3_1.length : Int))) % 256)]) (ok := fun _ => True) (okp := fun _ => True) ?hr ?hp (fun _ hk => hk) trivial (Below.refl _ _) (Nat.le_refl _) (by simp) ?_; (case hd => rfl); (case hg => rfl); (case hr => first | (go_simp; done) | (go_simp; rfl)); (case hp => exact (Reps.one (show Kd.M (Kd.int .u8) _ _ _ ((wrap64 (247 + (x3_1.length : Int))) % 256) [.int .u8 ((wrap64 (247 + (x3_1.length : Int))) % 256)] from rfl) (Reps.none _ _))); intro v111 w14 ho15 hb hg_ hnew_; clear hg_ hnew_; (first | rw [← Ny110.out] at ho15 | (simp only [Int.reduceToNat] at ho15; rw [← Ny110.out] at ho15)); have n0_ := Aside0.mk (Kd.R_elder' (by (with_reducible repeat (first | apply Kd.R_alloc | apply Kd.R_drewN | apply Kd.R_drew)); exact HO_3.out) (Kd.R_base ho15) hb); have n1_ := Aside0.mk (Kd.R_lower (Kd.R_new' ho15 (Kd.R_lt (by (with_reducible repeat (first | apply Kd.R_alloc | apply Kd.R_drewN | apply Kd.R_drew)); exact HO_3.out))) (below_size (by repeat (first | (with_reducible first | exact HB.out | apply below_alloc | apply pw_below_drewN | apply below_drew1) | exact HB.out)))); have n2_ := Aside0.mk (below_step (by repeat (first | (with_reducible first | exact HB.out | apply below_alloc | apply pw_below_drewN | apply below_drew1) | exact HB.out)) hb); clear HO_3; clear HB; have HO_3 := n0_; have HO112 := n1_; have HB := n2_; clear n0_ n1_ n2_; clear hb ho15; have hcv16 := own_string (P := Try.prog) Try.underlying82 Try.underlying5 Try.underlying9 (Kd.own_of_R HO112.out); have hcv17 := own_string (P := Try.prog) Try.underlying82 Try.underlying5 Try.underlying9 (Kd.own_of_R HO_3.out)))
            go_ret
            exact ⟨by first | rfl | (simp [errW_none, errW_some] <;> rfl) | (simp [*, errW_none, errW_some] <;> rfl), by repeat (first | (with_reducible first | exact HB.out | apply below_alloc | apply pw_below_drewN | apply below_drew1) | exact HB.out)⟩
          · rw [if_neg c12] at H
            exact absurd H (by simp)

end Go.Proofs.Ytccdmedhkbabpaa.PRf
/- The document's numbers and texts are the Writer's. Conditions: those that each theorem names. -/
namespace Go.Proofs.Ytccdmedhkbabpaa
open Go.RowKit Go.Proofs.YtccdmedhkbabpaaW.PrintWords PRf

theorem bl_zero : byteLen 0 = 0 := by decide
theorem bl_div (m : Nat) (h64 : m < 2 ^ 64) (h : 1 ≤ m) : byteLen m = byteLen (m / 256) + 1 := by
  obtain ⟨h1, h2⟩ := byteLen_lt h64 h
  obtain ⟨k, hk⟩ : ∃ k, byteLen m = k + 1 := ⟨byteLen m - 1, by have := byteLen_range h64 h; omega⟩
  rw [hk] at h1 h2 ⊢
  have h8 := (byteLen_range h64 h).2
  rw [Nat.add_sub_cancel] at h2
  rcases k with _ | k
  · have : m / 256 = 0 := by simp at h1; omega
    rw [this, bl_zero]
  · rw [byteLen_eq (x := m / 256) (k := k) (by omega)]
    · rw [Nat.le_div_iff_mul_le (by decide)]; rw [Nat.pow_succ] at h2; exact h2
    · rw [Nat.div_lt_iff_lt_mul (by decide)]; rw [Nat.pow_succ] at h1; exact h1
theorem beTo_snoc (m k : Nat) : beTo (k + 1) m (k + 1) = beTo k (m / 256) k ++ [((m % 256 : Nat) : Int)] := by
  rw [beTo_succ]
  congr 1
  · have h := beTo_up k (m / 256) (m % 256) (Nat.mod_lt _ (by decide)) k (Nat.le_refl _)
    rw [show m / 256 * 256 + m % 256 = m by omega] at h
    exact h
  · rw [show k + 1 - 1 - k = 0 by omega, Nat.pow_zero, Nat.div_one]
theorem ref_l0 : ∀ (k : Nat) (m : Nat) (xs : List Int), m < 2 ^ 64 → byteLen m < k → byteLen m + xs.length ≤ 8 →
    dovecoteref02_Number.l0 k xs (m : Int) = some (strOfNums [247 + ((byteLen m + xs.length : Nat) : Int)] ++ strOfNums (beTo (byteLen m) m (byteLen m) ++ xs)) := by
  intro k
  induction k with
  | zero => intro m xs _ h _; omega
  | succ k ih =>
    intro m xs hm hk hx
    unfold dovecoteref02_Number.l0
    rcases (show m = 0 ∨ 1 ≤ m by omega) with h0 | h0
    · subst h0
      rw [if_neg (by simp), bl_zero] at *
      simp only [Option.bind_some]
      have e : wrap64 (247 + (xs.length : Int)) % 256 = 247 + (xs.length : Int) := by unfold wrap64; omega
      rw [if_pos (by rw [size_nums, size_nums]; simp; omega), e]
      simp [beTo]
    · have hd := bl_div m hm h0
      rw [if_pos (by omega)]
      simp only [Option.bind_some]
      have e1 : Int.tmod (m : Int) 256 % 256 = ((m % 256 : Nat) : Int) := by rw [Int.tmod_eq_emod_of_nonneg (by omega)]; omega
      have e2 : IntKind.u64.wrap (Int.tdiv (m : Int) 256) = ((m / 256 : Nat) : Int) := by
        rw [Int.tdiv_eq_ediv_of_nonneg (by omega), u64_id _ (by omega) (by omega)]; omega
      rw [e1, e2, if_pos (by simp; omega), ih (m / 256) _ (by omega) (by omega) (by simp; omega), hd, beTo_snoc]
      congr 3
      · simp; omega
      · simp
theorem number_f (n : Int) (h0 : 0 ≤ n) (h1 : n ≤ 18446744073709551615) : dovecoteref02_Number.f 10 n = some (encB n) := by
  unfold dovecoteref02_Number.f encB encN
  by_cases h : n < 248
  · rw [if_pos h, if_pos h, Int.emod_eq_of_lt h0 (by omega)]
  · rw [if_neg h, if_neg h]
    have hr := byteLen_range (x := n.toNat) (by omega) (by omega)
    have := ref_l0 10 n.toNat [] (by omega) (by omega) (by simp; omega)
    rw [show ((n.toNat : Nat) : Int) = n by omega] at this
    rw [this, ← strOfNums_append]
    simp
set_option maxHeartbeats 1000000 in
theorem ref_number (n : Int) (h0 : 0 ≤ n) (h1 : n ≤ 18446744073709551615) (w : World) : Calls Try.prog 67 #[.int .u64 n] w fun e w' => e = .returned (.string (encB n)) ∧ Below w.heap.size w w' :=
  dovecoteref02_Number.calls 10 n _ w (number_f n h0 h1)
set_option maxRecDepth 100000 in
set_option maxHeartbeats 1000000 in
theorem ref_text (s : ByteArray) (h : s.size ≤ 100000) (w : World) : Calls Try.prog 86 #[.string s] w fun e w' => e = .returned (.string (encB s.size ++ s)) ∧ Below w.heap.size w w' := by
  have hsz := encB_size (n := (s.size : Int)) (by omega)
  go_enter Try.func86, Try.ntmps86
  go_wp2_with fail
  refine (ref_number _ (by omega) (by omega) _).mono ?_
  rintro e w1 ⟨rfl, hB⟩
  have HB := Lib.hid hB
  clear hB
  generalize hu : encB s.size = u at *
  have Hu := Lib.hid hu
  clear hu
  go_wp2
  go_ret
  exact ⟨by rw [Hu.out]; rfl, HB.out⟩
end Go.Proofs.Ytccdmedhkbabpaa

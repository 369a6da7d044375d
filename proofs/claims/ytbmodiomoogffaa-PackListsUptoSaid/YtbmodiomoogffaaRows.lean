/-
  No cell of these rows narrows 'for every input' (looked for: loops, veiled, ifaces, maps, wideKeys, modest, calm, conditions, laid).
  DERIVED. THE GIVEN ROWS OF THIS SEAT. 6 by the template 'for every input the law returns true; each argument reads behind the call as it read before'; 0 by the template 'total and deterministic' (their statements: YtbmodiomoogffaaTotals.lean).
  GIVEN WITH THE SEED: the statements are not yours to turn. If you find one false, say at which input.
  Laid BY PROGRAM, IN A SANDBOX (cutbox-rows.mjs): the forced cells as the released guide's own fill.sh prints them over the translation 170436dd24060793… (all of the seat's roots in one cut). By AI agents, Wed Nov 11 2026. No macro, syntax, notation, axiom, sorry.
-/
import Derived.Test.YtbmodiomoogffaaChecked
import GoSem.Claim
import GoSem.ClaimJoined
import GoSem.ClaimMapViews
import Derived.JoinedTies
import Derived.KernelRfl
namespace Go.Proofs.Ytbmodiomoogffaa
/- THE CELL 'sum', in the pinned program and in every row, IS THE sha256 OF THE DUMP (.gsa) THAT YtbmodiomoogffaaProg.lean LOADS. Nothing in Lean hashes anything: it is a label: what it is worth is what the hold of that sum in a sandbox is worth. -/
noncomputable def Try.pinned : Pinned := { name := "ytbmodiomoogffaa", sum := "170436dd2406079321983e7d5202a078f57f56362ed1f8039b930c2fbecd21ee", checked := Try.checked }
namespace Rows
def none {H : Type} : Left H := { results := [], args := [] }

/-- 'dovecotelaw02.PackSizes': WHATEVER THE INPUT: true; the input reads as it did. -/
def packSizesSpec : ChangeSpec := { name := "packSizes", fn := fun _ => fun
  | [d1, d2] => { results := [.lit (.bool true)], args := [d1, d2] }
  | _ => none }
def packSizesRow : OpenClaim := { program := "ytbmodiomoogffaa", sum := "170436dd2406079321983e7d5202a078f57f56362ed1f8039b930c2fbecd21ee", func := "dovecote/dovecotelaw02.PackSizes", spec := "packSizes", unfollowed := true, recurses := true, apart := false }
def PackSizesSaid : Prop := packSizesRow.holds Try.pinned (OpenSpec.ofChange packSizesSpec)

/-- ITS FALSE NEIGHBOUR: 'it returns false'. Refute it at one input. -/
def packSizesWrong : ChangeSpec := { name := "packSizes", fn := fun _ => fun
  | [d1, d2] => { results := [.lit (.bool false)], args := [d1, d2] }
  | _ => none }
def PackSizesWrongFalsely : Prop := packSizesRow.holds Try.pinned (OpenSpec.ofChange packSizesWrong)

/-- 'dovecotelaw02.PackLists': WHATEVER THE INPUT: true; the input reads as it did. -/
def packListsSpec : ChangeSpec := { name := "packLists", fn := fun _ => fun
  | [d] => { results := [.lit (.bool true)], args := [d] }
  | _ => none }
def packListsRow : OpenClaim := { program := "ytbmodiomoogffaa", sum := "170436dd2406079321983e7d5202a078f57f56362ed1f8039b930c2fbecd21ee", func := "dovecote/dovecotelaw02.PackLists", spec := "packLists", apart := false }
def PackListsSaid : Prop := packListsRow.holds Try.pinned (OpenSpec.ofChange packListsSpec)

/-- ITS FALSE NEIGHBOUR: 'it returns false'. Refute it at one input. -/
def packListsWrong : ChangeSpec := { name := "packLists", fn := fun _ => fun
  | [d] => { results := [.lit (.bool false)], args := [d] }
  | _ => none }
def PackListsWrongFalsely : Prop := packListsRow.holds Try.pinned (OpenSpec.ofChange packListsWrong)

/-- 'dovecotelaw02.PackCuts': WHATEVER THE INPUT: true; the input reads as it did. -/
def packCutsSpec : ChangeSpec := { name := "packCuts", fn := fun _ => fun
  | [d] => { results := [.lit (.bool true)], args := [d] }
  | _ => none }
def packCutsRow : OpenClaim := { program := "ytbmodiomoogffaa", sum := "170436dd2406079321983e7d5202a078f57f56362ed1f8039b930c2fbecd21ee", func := "dovecote/dovecotelaw02.PackCuts", spec := "packCuts", apart := false }
def PackCutsSaid : Prop := packCutsRow.holds Try.pinned (OpenSpec.ofChange packCutsSpec)

/-- ITS FALSE NEIGHBOUR: 'it returns false'. Refute it at one input. -/
def packCutsWrong : ChangeSpec := { name := "packCuts", fn := fun _ => fun
  | [d] => { results := [.lit (.bool false)], args := [d] }
  | _ => none }
def PackCutsWrongFalsely : Prop := packCutsRow.holds Try.pinned (OpenSpec.ofChange packCutsWrong)

/-- 'dovecotelaw02.PackWrites': WHATEVER THE INPUT: true; the input reads as it did. -/
def packWritesSpec : ChangeSpec := { name := "packWrites", fn := fun _ => fun
  | [d] => { results := [.lit (.bool true)], args := [d] }
  | _ => none }
def packWritesRow : OpenClaim := { program := "ytbmodiomoogffaa", sum := "170436dd2406079321983e7d5202a078f57f56362ed1f8039b930c2fbecd21ee", func := "dovecote/dovecotelaw02.PackWrites", spec := "packWrites", apart := false }
def PackWritesSaid : Prop := packWritesRow.holds Try.pinned (OpenSpec.ofChange packWritesSpec)

/-- ITS FALSE NEIGHBOUR: 'it returns false'. Refute it at one input. -/
def packWritesWrong : ChangeSpec := { name := "packWrites", fn := fun _ => fun
  | [d] => { results := [.lit (.bool false)], args := [d] }
  | _ => none }
def PackWritesWrongFalsely : Prop := packWritesRow.holds Try.pinned (OpenSpec.ofChange packWritesWrong)

/-- 'dovecotelaw02.PackOneWay': WHATEVER THE INPUT: true; the input reads as it did. -/
def packOneWaySpec : ChangeSpec := { name := "packOneWay", fn := fun _ => fun
  | [d] => { results := [.lit (.bool true)], args := [d] }
  | _ => none }
def packOneWayRow : OpenClaim := { program := "ytbmodiomoogffaa", sum := "170436dd2406079321983e7d5202a078f57f56362ed1f8039b930c2fbecd21ee", func := "dovecote/dovecotelaw02.PackOneWay", spec := "packOneWay", apart := false }
def PackOneWaySaid : Prop := packOneWayRow.holds Try.pinned (OpenSpec.ofChange packOneWaySpec)

/-- ITS FALSE NEIGHBOUR: 'it returns false'. Refute it at one input. -/
def packOneWayWrong : ChangeSpec := { name := "packOneWay", fn := fun _ => fun
  | [d] => { results := [.lit (.bool false)], args := [d] }
  | _ => none }
def PackOneWayWrongFalsely : Prop := packOneWayRow.holds Try.pinned (OpenSpec.ofChange packOneWayWrong)

/-- 'dovecotelaw02.PackNothing': WHATEVER THE INPUT: true; the input reads as it did. -/
def packNothingSpec : ChangeSpec := { name := "packNothing", fn := fun _ => fun
  | [d1, d2, d3] => { results := [.lit (.bool true)], args := [d1, d2, d3] }
  | _ => none }
def packNothingRow : OpenClaim := { program := "ytbmodiomoogffaa", sum := "170436dd2406079321983e7d5202a078f57f56362ed1f8039b930c2fbecd21ee", func := "dovecote/dovecotelaw02.PackNothing", spec := "packNothing", apart := false }
def PackNothingSaid : Prop := packNothingRow.holds Try.pinned (OpenSpec.ofChange packNothingSpec)

/-- ITS FALSE NEIGHBOUR: 'it returns false'. Refute it at one input. -/
def packNothingWrong : ChangeSpec := { name := "packNothing", fn := fun _ => fun
  | [d1, d2, d3] => { results := [.lit (.bool false)], args := [d1, d2, d3] }
  | _ => none }
def PackNothingWrongFalsely : Prop := packNothingRow.holds Try.pinned (OpenSpec.ofChange packNothingWrong)

/- THE SECOND FORM. 'bulk': how many values and letters a reading holds, each counted each time it is reached (what is shared counts as often as it is met; a slice's spare places count too). A statement '..UptoSaid' is the law's where the arguments, and the package variables that the reading takes, are together of bulk at most 1048576: NARROWER than '..Said'. Prove '..Said' where nothing that the law and all that it calls make is longer than what came in: it says more and counts as full. Else prove '..UptoSaid'. A law counts once. -/
mutual
def uptoBulk {H : Type} : DataW H → Nat
  | .lit (.string bytes) => bytes.length + 1
  | .lit _ => 1
  | .nil => 1
  | .ptr d => uptoBulk d + 1
  | .slice elems spare => uptoBulkAll elems + uptoBulkAll spare + 1
  | .agg parts => uptoBulkAll parts + 1
  | .iface _ d => uptoBulk d + 1
  | .map entries => uptoBulkEntries entries + 1
  | .held _ => 1
def uptoBulkAll {H : Type} : List (DataW H) → Nat
  | [] => 0
  | d :: r => uptoBulk d + uptoBulkAll r
def uptoBulkEntries {H : Type} : List (Lit × DataW H) → Nat
  | [] => 0
  | x :: r => uptoBulkEntry x + uptoBulkEntries r
def uptoBulkEntry {H : Type} : Lit × DataW H → Nat
  | (.string bytes, d) => bytes.length + uptoBulk d + 1
  | (_, d) => uptoBulk d + 1
 end
def uptoSmall : (H : Type) → List (DataW H) → Bool := fun _ ds => decide (uptoBulkAll ds ≤ 1048576)
def OpenSpec.upto (s : _root_.Go.ChangeSpec) : _root_.Go.OpenSpec := { _root_.Go.OpenSpec.ofChange s with cond := some uptoSmall }

/-- 'dovecotelaw02.PackSizes', WHERE WHAT IT READS IS OF BULK AT MOST 1048576: true; the input reads as it did. -/
def packSizesUptoRow : OpenClaim := { program := "ytbmodiomoogffaa", sum := "170436dd2406079321983e7d5202a078f57f56362ed1f8039b930c2fbecd21ee", func := "dovecote/dovecotelaw02.PackSizes", spec := "packSizes", unfollowed := true, recurses := true, apart := false, narrowed := true }
def PackSizesUptoSaid : Prop := packSizesUptoRow.holds Try.pinned (OpenSpec.upto packSizesSpec)

/-- 'dovecotelaw02.PackLists', WHERE WHAT IT READS IS OF BULK AT MOST 1048576: true; the input reads as it did. -/
def packListsUptoRow : OpenClaim := { program := "ytbmodiomoogffaa", sum := "170436dd2406079321983e7d5202a078f57f56362ed1f8039b930c2fbecd21ee", func := "dovecote/dovecotelaw02.PackLists", spec := "packLists", apart := false, narrowed := true }
def PackListsUptoSaid : Prop := packListsUptoRow.holds Try.pinned (OpenSpec.upto packListsSpec)

/-- 'dovecotelaw02.PackCuts', WHERE WHAT IT READS IS OF BULK AT MOST 1048576: true; the input reads as it did. -/
def packCutsUptoRow : OpenClaim := { program := "ytbmodiomoogffaa", sum := "170436dd2406079321983e7d5202a078f57f56362ed1f8039b930c2fbecd21ee", func := "dovecote/dovecotelaw02.PackCuts", spec := "packCuts", apart := false, narrowed := true }
def PackCutsUptoSaid : Prop := packCutsUptoRow.holds Try.pinned (OpenSpec.upto packCutsSpec)

/-- 'dovecotelaw02.PackWrites', WHERE WHAT IT READS IS OF BULK AT MOST 1048576: true; the input reads as it did. -/
def packWritesUptoRow : OpenClaim := { program := "ytbmodiomoogffaa", sum := "170436dd2406079321983e7d5202a078f57f56362ed1f8039b930c2fbecd21ee", func := "dovecote/dovecotelaw02.PackWrites", spec := "packWrites", apart := false, narrowed := true }
def PackWritesUptoSaid : Prop := packWritesUptoRow.holds Try.pinned (OpenSpec.upto packWritesSpec)

/-- 'dovecotelaw02.PackOneWay', WHERE WHAT IT READS IS OF BULK AT MOST 1048576: true; the input reads as it did. -/
def packOneWayUptoRow : OpenClaim := { program := "ytbmodiomoogffaa", sum := "170436dd2406079321983e7d5202a078f57f56362ed1f8039b930c2fbecd21ee", func := "dovecote/dovecotelaw02.PackOneWay", spec := "packOneWay", apart := false, narrowed := true }
def PackOneWayUptoSaid : Prop := packOneWayUptoRow.holds Try.pinned (OpenSpec.upto packOneWaySpec)

/-- 'dovecotelaw02.PackNothing', WHERE WHAT IT READS IS OF BULK AT MOST 1048576: true; the input reads as it did. -/
def packNothingUptoRow : OpenClaim := { program := "ytbmodiomoogffaa", sum := "170436dd2406079321983e7d5202a078f57f56362ed1f8039b930c2fbecd21ee", func := "dovecote/dovecotelaw02.PackNothing", spec := "packNothing", apart := false, narrowed := true }
def PackNothingUptoSaid : Prop := packNothingUptoRow.holds Try.pinned (OpenSpec.upto packNothingSpec)

end Rows
end Go.Proofs.Ytbmodiomoogffaa

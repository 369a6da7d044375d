/-
  No cell of these rows narrows 'for every input' (looked for: loops, veiled, ifaces, maps, wideKeys, modest, calm, conditions, laid).
  DERIVED. THE GIVEN ROWS OF THIS SEAT. 4 by the template 'for every input the law returns true; each argument reads behind the call as it read before'; 0 by the template 'total and deterministic' (their statements: YtblabgdkbcphkaaTotals.lean).
  GIVEN WITH THE SEED: the statements are not yours to turn. If you find one false, say at which input.
  Laid BY PROGRAM, IN A SANDBOX (cutbox-rows.mjs): the forced cells as the released guide's own fill.sh prints them over the translation 6af5804b84fa123b… (all of the seat's roots in one cut). By AI agents, Wed Nov 11 2026. No macro, syntax, notation, axiom, sorry.
-/
import Derived.Test.YtblabgdkbcphkaaChecked
import GoSem.Claim
import GoSem.ClaimJoined
import GoSem.ClaimMapViews
import Derived.JoinedTies
import Derived.KernelRfl
namespace Go.Proofs.Ytblabgdkbcphkaa
/- THE CELL 'sum', in the pinned program and in every row, IS THE sha256 OF THE DUMP (.gsa) THAT YtblabgdkbcphkaaProg.lean LOADS. Nothing in Lean hashes anything: it is a label: what it is worth is what the hold of that sum in a sandbox is worth. -/
noncomputable def Try.pinned : Pinned := { name := "ytblabgdkbcphkaa", sum := "6af5804b84fa123b886c3ddfdc80a7dff0599f8da133ee027f65e0b12bc4b90b", checked := Try.checked }
namespace Rows
def none {H : Type} : Left H := { results := [], args := [] }

/-- 'dovecotelaw12.EntryWrites': WHATEVER THE INPUT: true; the input reads as it did. -/
def entryWritesSpec : ChangeSpec := { name := "entryWrites", fn := fun _ => fun
  | [d] => { results := [.lit (.bool true)], args := [d] }
  | _ => none }
def entryWritesRow : OpenClaim := { program := "ytblabgdkbcphkaa", sum := "6af5804b84fa123b886c3ddfdc80a7dff0599f8da133ee027f65e0b12bc4b90b", func := "dovecote/dovecotelaw12.EntryWrites", spec := "entryWrites", apart := false }
def EntryWritesSaid : Prop := entryWritesRow.holds Try.pinned (OpenSpec.ofChange entryWritesSpec)

/-- ITS FALSE NEIGHBOUR: 'it returns false'. Refute it at one input. -/
def entryWritesWrong : ChangeSpec := { name := "entryWrites", fn := fun _ => fun
  | [d] => { results := [.lit (.bool false)], args := [d] }
  | _ => none }
def EntryWritesWrongFalsely : Prop := entryWritesRow.holds Try.pinned (OpenSpec.ofChange entryWritesWrong)

/-- 'dovecotelaw12.EntryReads': WHATEVER THE INPUT: true; the input reads as it did. -/
def entryReadsSpec : ChangeSpec := { name := "entryReads", fn := fun _ => fun
  | [d] => { results := [.lit (.bool true)], args := [d] }
  | _ => none }
def entryReadsRow : OpenClaim := { program := "ytblabgdkbcphkaa", sum := "6af5804b84fa123b886c3ddfdc80a7dff0599f8da133ee027f65e0b12bc4b90b", func := "dovecote/dovecotelaw12.EntryReads", spec := "entryReads", apart := false }
def EntryReadsSaid : Prop := entryReadsRow.holds Try.pinned (OpenSpec.ofChange entryReadsSpec)

/-- ITS FALSE NEIGHBOUR: 'it returns false'. Refute it at one input. -/
def entryReadsWrong : ChangeSpec := { name := "entryReads", fn := fun _ => fun
  | [d] => { results := [.lit (.bool false)], args := [d] }
  | _ => none }
def EntryReadsWrongFalsely : Prop := entryReadsRow.holds Try.pinned (OpenSpec.ofChange entryReadsWrong)

/-- 'dovecotelaw12.EntryApart': WHATEVER THE INPUT: true; the input reads as it did. -/
def entryApartSpec : ChangeSpec := { name := "entryApart", fn := fun _ => fun
  | [d1, d2] => { results := [.lit (.bool true)], args := [d1, d2] }
  | _ => none }
def entryApartRow : OpenClaim := { program := "ytblabgdkbcphkaa", sum := "6af5804b84fa123b886c3ddfdc80a7dff0599f8da133ee027f65e0b12bc4b90b", func := "dovecote/dovecotelaw12.EntryApart", spec := "entryApart", apart := false }
def EntryApartSaid : Prop := entryApartRow.holds Try.pinned (OpenSpec.ofChange entryApartSpec)

/-- ITS FALSE NEIGHBOUR: 'it returns false'. Refute it at one input. -/
def entryApartWrong : ChangeSpec := { name := "entryApart", fn := fun _ => fun
  | [d1, d2] => { results := [.lit (.bool false)], args := [d1, d2] }
  | _ => none }
def EntryApartWrongFalsely : Prop := entryApartRow.holds Try.pinned (OpenSpec.ofChange entryApartWrong)

/-- 'dovecotelaw12.EntryCuts': WHATEVER THE INPUT: true; the input reads as it did. -/
def entryCutsSpec : ChangeSpec := { name := "entryCuts", fn := fun _ => fun
  | [d1, d2, d3] => { results := [.lit (.bool true)], args := [d1, d2, d3] }
  | _ => none }
def entryCutsRow : OpenClaim := { program := "ytblabgdkbcphkaa", sum := "6af5804b84fa123b886c3ddfdc80a7dff0599f8da133ee027f65e0b12bc4b90b", func := "dovecote/dovecotelaw12.EntryCuts", spec := "entryCuts", apart := false }
def EntryCutsSaid : Prop := entryCutsRow.holds Try.pinned (OpenSpec.ofChange entryCutsSpec)

/-- ITS FALSE NEIGHBOUR: 'it returns false'. Refute it at one input. -/
def entryCutsWrong : ChangeSpec := { name := "entryCuts", fn := fun _ => fun
  | [d1, d2, d3] => { results := [.lit (.bool false)], args := [d1, d2, d3] }
  | _ => none }
def EntryCutsWrongFalsely : Prop := entryCutsRow.holds Try.pinned (OpenSpec.ofChange entryCutsWrong)

/- THE SECOND FORM. 'bulk': how many values and letters a reading holds, each counted each time it is reached (what is shared counts as often as it is met; a slice's spare places count too). A statement '..UptoSaid' is the law's where the arguments, and the package variables that the reading takes, are together of bulk at most 1048576: NARROWER than '..Said'. Prove '..Said' where nothing that the law and all that it calls make is longer than what came in: it says more and counts as full. Else prove '..UptoSaid'. A law counts once. -/
mutual
def uptoBulk {H : Type} : DataW H → Nat
  | .lit (.string bytes) => bytes.length + 1
  | .lit _ => 1
  | .nil => 1
  | .ptr d => uptoBulk d + 1
  | .slice elems spare => uptoBulkAll elems + uptoBulkAll spare + 1
  | .agg parts => uptoBulkAll parts + 1
  | .iface _ d => uptoBulk d + 1
  | .map entries => uptoBulkEntries entries + 1
  | .held _ => 1
def uptoBulkAll {H : Type} : List (DataW H) → Nat
  | [] => 0
  | d :: r => uptoBulk d + uptoBulkAll r
def uptoBulkEntries {H : Type} : List (Lit × DataW H) → Nat
  | [] => 0
  | x :: r => uptoBulkEntry x + uptoBulkEntries r
def uptoBulkEntry {H : Type} : Lit × DataW H → Nat
  | (.string bytes, d) => bytes.length + uptoBulk d + 1
  | (_, d) => uptoBulk d + 1
 end
def uptoSmall : (H : Type) → List (DataW H) → Bool := fun _ ds => decide (uptoBulkAll ds ≤ 1048576)
def OpenSpec.upto (s : _root_.Go.ChangeSpec) : _root_.Go.OpenSpec := { _root_.Go.OpenSpec.ofChange s with cond := some uptoSmall }

/-- 'dovecotelaw12.EntryWrites', WHERE WHAT IT READS IS OF BULK AT MOST 1048576: true; the input reads as it did. -/
def entryWritesUptoRow : OpenClaim := { program := "ytblabgdkbcphkaa", sum := "6af5804b84fa123b886c3ddfdc80a7dff0599f8da133ee027f65e0b12bc4b90b", func := "dovecote/dovecotelaw12.EntryWrites", spec := "entryWrites", apart := false, narrowed := true }
def EntryWritesUptoSaid : Prop := entryWritesUptoRow.holds Try.pinned (OpenSpec.upto entryWritesSpec)

/-- 'dovecotelaw12.EntryReads', WHERE WHAT IT READS IS OF BULK AT MOST 1048576: true; the input reads as it did. -/
def entryReadsUptoRow : OpenClaim := { program := "ytblabgdkbcphkaa", sum := "6af5804b84fa123b886c3ddfdc80a7dff0599f8da133ee027f65e0b12bc4b90b", func := "dovecote/dovecotelaw12.EntryReads", spec := "entryReads", apart := false, narrowed := true }
def EntryReadsUptoSaid : Prop := entryReadsUptoRow.holds Try.pinned (OpenSpec.upto entryReadsSpec)

/-- 'dovecotelaw12.EntryApart', WHERE WHAT IT READS IS OF BULK AT MOST 1048576: true; the input reads as it did. -/
def entryApartUptoRow : OpenClaim := { program := "ytblabgdkbcphkaa", sum := "6af5804b84fa123b886c3ddfdc80a7dff0599f8da133ee027f65e0b12bc4b90b", func := "dovecote/dovecotelaw12.EntryApart", spec := "entryApart", apart := false, narrowed := true }
def EntryApartUptoSaid : Prop := entryApartUptoRow.holds Try.pinned (OpenSpec.upto entryApartSpec)

/-- 'dovecotelaw12.EntryCuts', WHERE WHAT IT READS IS OF BULK AT MOST 1048576: true; the input reads as it did. -/
def entryCutsUptoRow : OpenClaim := { program := "ytblabgdkbcphkaa", sum := "6af5804b84fa123b886c3ddfdc80a7dff0599f8da133ee027f65e0b12bc4b90b", func := "dovecote/dovecotelaw12.EntryCuts", spec := "entryCuts", apart := false, narrowed := true }
def EntryCutsUptoSaid : Prop := entryCutsUptoRow.holds Try.pinned (OpenSpec.upto entryCutsSpec)

end Rows
end Go.Proofs.Ytblabgdkbcphkaa

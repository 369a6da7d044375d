/-
  No cell of these rows narrows 'for every input' (looked for: loops, veiled, ifaces, maps, wideKeys, modest, calm, conditions, laid).
  DERIVED. THE GIVEN ROWS OF THIS SEAT. 4 by the template 'for every input the law returns true; each argument reads behind the call as it read before'; 0 by the template 'total and deterministic' (their statements: YtahfcnbdladfbaaTotals.lean).
  GIVEN WITH THE SEED: the statements are not yours to turn. If you find one false, say at which input.
  Laid BY PROGRAM, IN A SANDBOX (cutbox-rows.mjs): the forced cells as the released guide's own fill.sh prints them over the translation c54edcb66198755d… (all of the seat's roots in one cut). By AI agents, Wed Nov 11 2026. No macro, syntax, notation, axiom, sorry.
-/
import Derived.Test.YtahfcnbdladfbaaChecked
import GoSem.Claim
import GoSem.ClaimJoined
import GoSem.ClaimMapViews
import Derived.JoinedTies
import Derived.KernelRfl
namespace Go.Proofs.Ytahfcnbdladfbaa
/- THE CELL 'sum', in the pinned program and in every row, IS THE sha256 OF THE DUMP (.gsa) THAT YtahfcnbdladfbaaProg.lean LOADS. Nothing in Lean hashes anything: it is a label: what it is worth is what the hold of that sum in a sandbox is worth. -/
noncomputable def Try.pinned : Pinned := { name := "ytahfcnbdladfbaa", sum := "c54edcb66198755d9c2dc9cc0a6abe7ab4ccf4ce248f6e057a0a68012593306f", checked := Try.checked }
namespace Rows
def none {H : Type} : Left H := { results := [], args := [] }

/-- 'dovecotelaw04.DrumFuel': WHATEVER THE INPUT: true; the input reads as it did. -/
def drumFuelSpec : ChangeSpec := { name := "drumFuel", fn := fun _ => fun
  | [d1, d2] => { results := [.lit (.bool true)], args := [d1, d2] }
  | _ => none }
def drumFuelRow : OpenClaim := { program := "ytahfcnbdladfbaa", sum := "c54edcb66198755d9c2dc9cc0a6abe7ab4ccf4ce248f6e057a0a68012593306f", func := "dovecote/dovecotelaw04.DrumFuel", spec := "drumFuel", unfollowed := true, recurses := true, apart := false }
def DrumFuelSaid : Prop := drumFuelRow.holds Try.pinned (OpenSpec.ofChange drumFuelSpec)

/-- ITS FALSE NEIGHBOUR: 'it returns false'. Refute it at one input. -/
def drumFuelWrong : ChangeSpec := { name := "drumFuel", fn := fun _ => fun
  | [d1, d2] => { results := [.lit (.bool false)], args := [d1, d2] }
  | _ => none }
def DrumFuelWrongFalsely : Prop := drumFuelRow.holds Try.pinned (OpenSpec.ofChange drumFuelWrong)

/-- 'dovecotelaw04.DrumSure': WHATEVER THE INPUT: true; the input reads as it did. -/
def drumSureSpec : ChangeSpec := { name := "drumSure", fn := fun _ => fun
  | [d] => { results := [.lit (.bool true)], args := [d] }
  | _ => none }
def drumSureRow : OpenClaim := { program := "ytahfcnbdladfbaa", sum := "c54edcb66198755d9c2dc9cc0a6abe7ab4ccf4ce248f6e057a0a68012593306f", func := "dovecote/dovecotelaw04.DrumSure", spec := "drumSure", unfollowed := true, recurses := true, apart := false }
def DrumSureSaid : Prop := drumSureRow.holds Try.pinned (OpenSpec.ofChange drumSureSpec)

/-- ITS FALSE NEIGHBOUR: 'it returns false'. Refute it at one input. -/
def drumSureWrong : ChangeSpec := { name := "drumSure", fn := fun _ => fun
  | [d] => { results := [.lit (.bool false)], args := [d] }
  | _ => none }
def DrumSureWrongFalsely : Prop := drumSureRow.holds Try.pinned (OpenSpec.ofChange drumSureWrong)

/-- 'dovecotelaw04.DrumRuns': WHATEVER THE INPUT: true; the input reads as it did. -/
def drumRunsSpec : ChangeSpec := { name := "drumRuns", fn := fun _ => fun
  | [d1, d2] => { results := [.lit (.bool true)], args := [d1, d2] }
  | _ => none }
def drumRunsRow : OpenClaim := { program := "ytahfcnbdladfbaa", sum := "c54edcb66198755d9c2dc9cc0a6abe7ab4ccf4ce248f6e057a0a68012593306f", func := "dovecote/dovecotelaw04.DrumRuns", spec := "drumRuns", unfollowed := true, recurses := true, apart := false }
def DrumRunsSaid : Prop := drumRunsRow.holds Try.pinned (OpenSpec.ofChange drumRunsSpec)

/-- ITS FALSE NEIGHBOUR: 'it returns false'. Refute it at one input. -/
def drumRunsWrong : ChangeSpec := { name := "drumRuns", fn := fun _ => fun
  | [d1, d2] => { results := [.lit (.bool false)], args := [d1, d2] }
  | _ => none }
def DrumRunsWrongFalsely : Prop := drumRunsRow.holds Try.pinned (OpenSpec.ofChange drumRunsWrong)

/-- 'dovecotelaw04.DrumApart': WHATEVER THE INPUT: true; the input reads as it did. -/
def drumApartSpec : ChangeSpec := { name := "drumApart", fn := fun _ => fun
  | [d1, d2, d3] => { results := [.lit (.bool true)], args := [d1, d2, d3] }
  | _ => none }
def drumApartRow : OpenClaim := { program := "ytahfcnbdladfbaa", sum := "c54edcb66198755d9c2dc9cc0a6abe7ab4ccf4ce248f6e057a0a68012593306f", func := "dovecote/dovecotelaw04.DrumApart", spec := "drumApart", unfollowed := true, recurses := true, apart := false }
def DrumApartSaid : Prop := drumApartRow.holds Try.pinned (OpenSpec.ofChange drumApartSpec)

/-- ITS FALSE NEIGHBOUR: 'it returns false'. Refute it at one input. -/
def drumApartWrong : ChangeSpec := { name := "drumApart", fn := fun _ => fun
  | [d1, d2, d3] => { results := [.lit (.bool false)], args := [d1, d2, d3] }
  | _ => none }
def DrumApartWrongFalsely : Prop := drumApartRow.holds Try.pinned (OpenSpec.ofChange drumApartWrong)

/- THE SECOND FORM. 'bulk': how many values and letters a reading holds, each counted each time it is reached (what is shared counts as often as it is met; a slice's spare places count too). A statement '..UptoSaid' is the law's where the arguments, and the package variables that the reading takes, are together of bulk at most 1048576: NARROWER than '..Said'. Prove '..Said' where nothing that the law and all that it calls make is longer than what came in: it says more and counts as full. Else prove '..UptoSaid'. A law counts once. -/
mutual
def uptoBulk {H : Type} : DataW H → Nat
  | .lit (.string bytes) => bytes.length + 1
  | .lit _ => 1
  | .nil => 1
  | .ptr d => uptoBulk d + 1
  | .slice elems spare => uptoBulkAll elems + uptoBulkAll spare + 1
  | .agg parts => uptoBulkAll parts + 1
  | .iface _ d => uptoBulk d + 1
  | .map entries => uptoBulkEntries entries + 1
  | .held _ => 1
def uptoBulkAll {H : Type} : List (DataW H) → Nat
  | [] => 0
  | d :: r => uptoBulk d + uptoBulkAll r
def uptoBulkEntries {H : Type} : List (Lit × DataW H) → Nat
  | [] => 0
  | x :: r => uptoBulkEntry x + uptoBulkEntries r
def uptoBulkEntry {H : Type} : Lit × DataW H → Nat
  | (.string bytes, d) => bytes.length + uptoBulk d + 1
  | (_, d) => uptoBulk d + 1
 end
def uptoSmall : (H : Type) → List (DataW H) → Bool := fun _ ds => decide (uptoBulkAll ds ≤ 1048576)
def OpenSpec.upto (s : _root_.Go.ChangeSpec) : _root_.Go.OpenSpec := { _root_.Go.OpenSpec.ofChange s with cond := some uptoSmall }

/-- 'dovecotelaw04.DrumFuel', WHERE WHAT IT READS IS OF BULK AT MOST 1048576: true; the input reads as it did. -/
def drumFuelUptoRow : OpenClaim := { program := "ytahfcnbdladfbaa", sum := "c54edcb66198755d9c2dc9cc0a6abe7ab4ccf4ce248f6e057a0a68012593306f", func := "dovecote/dovecotelaw04.DrumFuel", spec := "drumFuel", unfollowed := true, recurses := true, apart := false, narrowed := true }
def DrumFuelUptoSaid : Prop := drumFuelUptoRow.holds Try.pinned (OpenSpec.upto drumFuelSpec)

/-- 'dovecotelaw04.DrumSure', WHERE WHAT IT READS IS OF BULK AT MOST 1048576: true; the input reads as it did. -/
def drumSureUptoRow : OpenClaim := { program := "ytahfcnbdladfbaa", sum := "c54edcb66198755d9c2dc9cc0a6abe7ab4ccf4ce248f6e057a0a68012593306f", func := "dovecote/dovecotelaw04.DrumSure", spec := "drumSure", unfollowed := true, recurses := true, apart := false, narrowed := true }
def DrumSureUptoSaid : Prop := drumSureUptoRow.holds Try.pinned (OpenSpec.upto drumSureSpec)

/-- 'dovecotelaw04.DrumRuns', WHERE WHAT IT READS IS OF BULK AT MOST 1048576: true; the input reads as it did. -/
def drumRunsUptoRow : OpenClaim := { program := "ytahfcnbdladfbaa", sum := "c54edcb66198755d9c2dc9cc0a6abe7ab4ccf4ce248f6e057a0a68012593306f", func := "dovecote/dovecotelaw04.DrumRuns", spec := "drumRuns", unfollowed := true, recurses := true, apart := false, narrowed := true }
def DrumRunsUptoSaid : Prop := drumRunsUptoRow.holds Try.pinned (OpenSpec.upto drumRunsSpec)

/-- 'dovecotelaw04.DrumApart', WHERE WHAT IT READS IS OF BULK AT MOST 1048576: true; the input reads as it did. -/
def drumApartUptoRow : OpenClaim := { program := "ytahfcnbdladfbaa", sum := "c54edcb66198755d9c2dc9cc0a6abe7ab4ccf4ce248f6e057a0a68012593306f", func := "dovecote/dovecotelaw04.DrumApart", spec := "drumApart", unfollowed := true, recurses := true, apart := false, narrowed := true }
def DrumApartUptoSaid : Prop := drumApartUptoRow.holds Try.pinned (OpenSpec.upto drumApartSpec)

end Rows
end Go.Proofs.Ytahfcnbdladfbaa

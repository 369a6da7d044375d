/-
  No cell of these rows narrows 'for every input' (looked for: loops, veiled, ifaces, maps, wideKeys, modest, calm, conditions, laid).
  DERIVED. THE GIVEN ROWS OF THIS SEAT. 5 by the template 'for every input the law returns true; each argument reads behind the call as it read before'; 0 by the template 'total and deterministic' (their statements: YtbodaohbmekekaaTotals.lean).
  GIVEN WITH THE SEED: the statements are not yours to turn. If you find one false, say at which input.
  Laid BY PROGRAM, IN A SANDBOX (cutbox-rows.mjs): the forced cells as the released guide's own fill.sh prints them over the translation 2e2dfa2f4c5a2c0b… (all of the seat's roots in one cut). By AI agents, Wed Nov 11 2026. No macro, syntax, notation, axiom, sorry.
-/
import Derived.Test.YtbodaohbmekekaaChecked
import GoSem.Claim
import GoSem.ClaimJoined
import GoSem.ClaimMapViews
import Derived.JoinedTies
import Derived.KernelRfl
namespace Go.Proofs.Ytbodaohbmekekaa
/- THE CELL 'sum', in the pinned program and in every row, IS THE sha256 OF THE DUMP (.gsa) THAT YtbodaohbmekekaaProg.lean LOADS. Nothing in Lean hashes anything: it is a label: what it is worth is what the hold of that sum in a sandbox is worth. -/
noncomputable def Try.pinned : Pinned := { name := "ytbodaohbmekekaa", sum := "2e2dfa2f4c5a2c0bdac780c3fefb8ee83204c8ea53af0b138125a135059fc837", checked := Try.checked }
namespace Rows
def none {H : Type} : Left H := { results := [], args := [] }

/-- 'dovecotelaw13.PlaceWalks': WHATEVER THE INPUT: true; the input reads as it did. -/
def placeWalksSpec : ChangeSpec := { name := "placeWalks", fn := fun _ => fun
  | [d1, d2] => { results := [.lit (.bool true)], args := [d1, d2] }
  | _ => none }
def placeWalksRow : OpenClaim := { program := "ytbodaohbmekekaa", sum := "2e2dfa2f4c5a2c0bdac780c3fefb8ee83204c8ea53af0b138125a135059fc837", func := "dovecote/dovecotelaw13.PlaceWalks", spec := "placeWalks", apart := false }
def PlaceWalksSaid : Prop := placeWalksRow.holds Try.pinned (OpenSpec.ofChange placeWalksSpec)

/-- ITS FALSE NEIGHBOUR: 'it returns false'. Refute it at one input. -/
def placeWalksWrong : ChangeSpec := { name := "placeWalks", fn := fun _ => fun
  | [d1, d2] => { results := [.lit (.bool false)], args := [d1, d2] }
  | _ => none }
def PlaceWalksWrongFalsely : Prop := placeWalksRow.holds Try.pinned (OpenSpec.ofChange placeWalksWrong)

/-- 'dovecotelaw13.PlaceSteps': WHATEVER THE INPUT: true; the input reads as it did. -/
def placeStepsSpec : ChangeSpec := { name := "placeSteps", fn := fun _ => fun
  | [d1, d2] => { results := [.lit (.bool true)], args := [d1, d2] }
  | _ => none }
def placeStepsRow : OpenClaim := { program := "ytbodaohbmekekaa", sum := "2e2dfa2f4c5a2c0bdac780c3fefb8ee83204c8ea53af0b138125a135059fc837", func := "dovecote/dovecotelaw13.PlaceSteps", spec := "placeSteps", apart := false }
def PlaceStepsSaid : Prop := placeStepsRow.holds Try.pinned (OpenSpec.ofChange placeStepsSpec)

/-- ITS FALSE NEIGHBOUR: 'it returns false'. Refute it at one input. -/
def placeStepsWrong : ChangeSpec := { name := "placeSteps", fn := fun _ => fun
  | [d1, d2] => { results := [.lit (.bool false)], args := [d1, d2] }
  | _ => none }
def PlaceStepsWrongFalsely : Prop := placeStepsRow.holds Try.pinned (OpenSpec.ofChange placeStepsWrong)

/-- 'dovecotelaw13.PlaceTells': WHATEVER THE INPUT: true; the input reads as it did. -/
def placeTellsSpec : ChangeSpec := { name := "placeTells", fn := fun _ => fun
  | [d1, d2, d3] => { results := [.lit (.bool true)], args := [d1, d2, d3] }
  | _ => none }
def placeTellsRow : OpenClaim := { program := "ytbodaohbmekekaa", sum := "2e2dfa2f4c5a2c0bdac780c3fefb8ee83204c8ea53af0b138125a135059fc837", func := "dovecote/dovecotelaw13.PlaceTells", spec := "placeTells", apart := false }
def PlaceTellsSaid : Prop := placeTellsRow.holds Try.pinned (OpenSpec.ofChange placeTellsSpec)

/-- ITS FALSE NEIGHBOUR: 'it returns false'. Refute it at one input. -/
def placeTellsWrong : ChangeSpec := { name := "placeTells", fn := fun _ => fun
  | [d1, d2, d3] => { results := [.lit (.bool false)], args := [d1, d2, d3] }
  | _ => none }
def PlaceTellsWrongFalsely : Prop := placeTellsRow.holds Try.pinned (OpenSpec.ofChange placeTellsWrong)

/-- 'dovecotelaw13.PlaceOne': WHATEVER THE INPUT: true; the input reads as it did. -/
def placeOneSpec : ChangeSpec := { name := "placeOne", fn := fun _ => fun
  | [d1, d2, d3] => { results := [.lit (.bool true)], args := [d1, d2, d3] }
  | _ => none }
def placeOneRow : OpenClaim := { program := "ytbodaohbmekekaa", sum := "2e2dfa2f4c5a2c0bdac780c3fefb8ee83204c8ea53af0b138125a135059fc837", func := "dovecote/dovecotelaw13.PlaceOne", spec := "placeOne", apart := false }
def PlaceOneSaid : Prop := placeOneRow.holds Try.pinned (OpenSpec.ofChange placeOneSpec)

/-- ITS FALSE NEIGHBOUR: 'it returns false'. Refute it at one input. -/
def placeOneWrong : ChangeSpec := { name := "placeOne", fn := fun _ => fun
  | [d1, d2, d3] => { results := [.lit (.bool false)], args := [d1, d2, d3] }
  | _ => none }
def PlaceOneWrongFalsely : Prop := placeOneRow.holds Try.pinned (OpenSpec.ofChange placeOneWrong)

/-- 'dovecotelaw13.PlaceSplits': WHATEVER THE INPUT: true; the input reads as it did. -/
def placeSplitsSpec : ChangeSpec := { name := "placeSplits", fn := fun _ => fun
  | [d1, d2] => { results := [.lit (.bool true)], args := [d1, d2] }
  | _ => none }
def placeSplitsRow : OpenClaim := { program := "ytbodaohbmekekaa", sum := "2e2dfa2f4c5a2c0bdac780c3fefb8ee83204c8ea53af0b138125a135059fc837", func := "dovecote/dovecotelaw13.PlaceSplits", spec := "placeSplits", apart := false }
def PlaceSplitsSaid : Prop := placeSplitsRow.holds Try.pinned (OpenSpec.ofChange placeSplitsSpec)

/-- ITS FALSE NEIGHBOUR: 'it returns false'. Refute it at one input. -/
def placeSplitsWrong : ChangeSpec := { name := "placeSplits", fn := fun _ => fun
  | [d1, d2] => { results := [.lit (.bool false)], args := [d1, d2] }
  | _ => none }
def PlaceSplitsWrongFalsely : Prop := placeSplitsRow.holds Try.pinned (OpenSpec.ofChange placeSplitsWrong)

/- THE SECOND FORM. 'bulk': how many values and letters a reading holds, each counted each time it is reached (what is shared counts as often as it is met; a slice's spare places count too). A statement '..UptoSaid' is the law's where the arguments, and the package variables that the reading takes, are together of bulk at most 1048576: NARROWER than '..Said'. Prove '..Said' where nothing that the law and all that it calls make is longer than what came in: it says more and counts as full. Else prove '..UptoSaid'. A law counts once. -/
mutual
def uptoBulk {H : Type} : DataW H → Nat
  | .lit (.string bytes) => bytes.length + 1
  | .lit _ => 1
  | .nil => 1
  | .ptr d => uptoBulk d + 1
  | .slice elems spare => uptoBulkAll elems + uptoBulkAll spare + 1
  | .agg parts => uptoBulkAll parts + 1
  | .iface _ d => uptoBulk d + 1
  | .map entries => uptoBulkEntries entries + 1
  | .held _ => 1
def uptoBulkAll {H : Type} : List (DataW H) → Nat
  | [] => 0
  | d :: r => uptoBulk d + uptoBulkAll r
def uptoBulkEntries {H : Type} : List (Lit × DataW H) → Nat
  | [] => 0
  | x :: r => uptoBulkEntry x + uptoBulkEntries r
def uptoBulkEntry {H : Type} : Lit × DataW H → Nat
  | (.string bytes, d) => bytes.length + uptoBulk d + 1
  | (_, d) => uptoBulk d + 1
 end
def uptoSmall : (H : Type) → List (DataW H) → Bool := fun _ ds => decide (uptoBulkAll ds ≤ 1048576)
def OpenSpec.upto (s : _root_.Go.ChangeSpec) : _root_.Go.OpenSpec := { _root_.Go.OpenSpec.ofChange s with cond := some uptoSmall }

/-- 'dovecotelaw13.PlaceWalks', WHERE WHAT IT READS IS OF BULK AT MOST 1048576: true; the input reads as it did. -/
def placeWalksUptoRow : OpenClaim := { program := "ytbodaohbmekekaa", sum := "2e2dfa2f4c5a2c0bdac780c3fefb8ee83204c8ea53af0b138125a135059fc837", func := "dovecote/dovecotelaw13.PlaceWalks", spec := "placeWalks", apart := false, narrowed := true }
def PlaceWalksUptoSaid : Prop := placeWalksUptoRow.holds Try.pinned (OpenSpec.upto placeWalksSpec)

/-- 'dovecotelaw13.PlaceSteps', WHERE WHAT IT READS IS OF BULK AT MOST 1048576: true; the input reads as it did. -/
def placeStepsUptoRow : OpenClaim := { program := "ytbodaohbmekekaa", sum := "2e2dfa2f4c5a2c0bdac780c3fefb8ee83204c8ea53af0b138125a135059fc837", func := "dovecote/dovecotelaw13.PlaceSteps", spec := "placeSteps", apart := false, narrowed := true }
def PlaceStepsUptoSaid : Prop := placeStepsUptoRow.holds Try.pinned (OpenSpec.upto placeStepsSpec)

/-- 'dovecotelaw13.PlaceTells', WHERE WHAT IT READS IS OF BULK AT MOST 1048576: true; the input reads as it did. -/
def placeTellsUptoRow : OpenClaim := { program := "ytbodaohbmekekaa", sum := "2e2dfa2f4c5a2c0bdac780c3fefb8ee83204c8ea53af0b138125a135059fc837", func := "dovecote/dovecotelaw13.PlaceTells", spec := "placeTells", apart := false, narrowed := true }
def PlaceTellsUptoSaid : Prop := placeTellsUptoRow.holds Try.pinned (OpenSpec.upto placeTellsSpec)

/-- 'dovecotelaw13.PlaceOne', WHERE WHAT IT READS IS OF BULK AT MOST 1048576: true; the input reads as it did. -/
def placeOneUptoRow : OpenClaim := { program := "ytbodaohbmekekaa", sum := "2e2dfa2f4c5a2c0bdac780c3fefb8ee83204c8ea53af0b138125a135059fc837", func := "dovecote/dovecotelaw13.PlaceOne", spec := "placeOne", apart := false, narrowed := true }
def PlaceOneUptoSaid : Prop := placeOneUptoRow.holds Try.pinned (OpenSpec.upto placeOneSpec)

/-- 'dovecotelaw13.PlaceSplits', WHERE WHAT IT READS IS OF BULK AT MOST 1048576: true; the input reads as it did. -/
def placeSplitsUptoRow : OpenClaim := { program := "ytbodaohbmekekaa", sum := "2e2dfa2f4c5a2c0bdac780c3fefb8ee83204c8ea53af0b138125a135059fc837", func := "dovecote/dovecotelaw13.PlaceSplits", spec := "placeSplits", apart := false, narrowed := true }
def PlaceSplitsUptoSaid : Prop := placeSplitsUptoRow.holds Try.pinned (OpenSpec.upto placeSplitsSpec)

end Rows
end Go.Proofs.Ytbodaohbmekekaa

/-
  No cell of these rows narrows 'for every input' (looked for: loops, veiled, ifaces, maps, wideKeys, modest, calm, conditions, laid).
  DERIVED. THE GIVEN ROWS OF THIS SEAT. 4 by the template 'for every input the law returns true; each argument reads behind the call as it read before'; 0 by the template 'total and deterministic' (their statements: YtccdmedhkbabpaaTotals.lean).
  GIVEN WITH THE SEED: the statements are not yours to turn. If you find one false, say at which input.
  Laid BY PROGRAM, IN A SANDBOX (cutbox-rows.mjs): the forced cells as the released guide's own fill.sh prints them over the translation 0b3dae0cb48f22d9… (all of the seat's roots in one cut). By AI agents, Wed Nov 11 2026. No macro, syntax, notation, axiom, sorry.
-/
import Derived.Test.YtccdmedhkbabpaaChecked
import GoSem.Claim
import GoSem.ClaimJoined
import GoSem.ClaimMapViews
import Derived.JoinedTies
import Derived.KernelRfl
namespace Go.Proofs.Ytccdmedhkbabpaa
/- THE CELL 'sum', in the pinned program and in every row, IS THE sha256 OF THE DUMP (.gsa) THAT YtccdmedhkbabpaaProg.lean LOADS. Nothing in Lean hashes anything: it is a label: what it is worth is what the hold of that sum in a sandbox is worth. -/
noncomputable def Try.pinned : Pinned := { name := "ytccdmedhkbabpaa", sum := "0b3dae0cb48f22d92e58da5251548f1e5a35c165a655249a56884dfd793e9d60", checked := Try.checked }
namespace Rows
def none {H : Type} : Left H := { results := [], args := [] }

/-- 'dovecotelaw05.LogKeeps': WHATEVER THE INPUT: true; the input reads as it did. -/
def logKeepsSpec : ChangeSpec := { name := "logKeeps", fn := fun _ => fun
  | [d] => { results := [.lit (.bool true)], args := [d] }
  | _ => none }
def logKeepsRow : OpenClaim := { program := "ytccdmedhkbabpaa", sum := "0b3dae0cb48f22d92e58da5251548f1e5a35c165a655249a56884dfd793e9d60", func := "dovecote/dovecotelaw05.LogKeeps", spec := "logKeeps", inPlace := ["internal/abi.NoEscape"], unfollowed := true, recurses := true, apart := false }
def LogKeepsSaid : Prop := logKeepsRow.holds Try.pinned (OpenSpec.ofChange logKeepsSpec)

/-- ITS FALSE NEIGHBOUR: 'it returns false'. Refute it at one input. -/
def logKeepsWrong : ChangeSpec := { name := "logKeeps", fn := fun _ => fun
  | [d] => { results := [.lit (.bool false)], args := [d] }
  | _ => none }
def LogKeepsWrongFalsely : Prop := logKeepsRow.holds Try.pinned (OpenSpec.ofChange logKeepsWrong)

/-- 'dovecotelaw05.LogFits': WHATEVER THE INPUT: true; the input reads as it did. -/
def logFitsSpec : ChangeSpec := { name := "logFits", fn := fun _ => fun
  | [d1, d2] => { results := [.lit (.bool true)], args := [d1, d2] }
  | _ => none }
def logFitsRow : OpenClaim := { program := "ytccdmedhkbabpaa", sum := "0b3dae0cb48f22d92e58da5251548f1e5a35c165a655249a56884dfd793e9d60", func := "dovecote/dovecotelaw05.LogFits", spec := "logFits", inPlace := ["internal/abi.NoEscape"], unfollowed := true, recurses := true, apart := false }
def LogFitsSaid : Prop := logFitsRow.holds Try.pinned (OpenSpec.ofChange logFitsSpec)

/-- ITS FALSE NEIGHBOUR: 'it returns false'. Refute it at one input. -/
def logFitsWrong : ChangeSpec := { name := "logFits", fn := fun _ => fun
  | [d1, d2] => { results := [.lit (.bool false)], args := [d1, d2] }
  | _ => none }
def LogFitsWrongFalsely : Prop := logFitsRow.holds Try.pinned (OpenSpec.ofChange logFitsWrong)

/-- 'dovecotelaw05.LogRenews': WHATEVER THE INPUT: true; the input reads as it did. -/
def logRenewsSpec : ChangeSpec := { name := "logRenews", fn := fun _ => fun
  | [d1, d2] => { results := [.lit (.bool true)], args := [d1, d2] }
  | _ => none }
def logRenewsRow : OpenClaim := { program := "ytccdmedhkbabpaa", sum := "0b3dae0cb48f22d92e58da5251548f1e5a35c165a655249a56884dfd793e9d60", func := "dovecote/dovecotelaw05.LogRenews", spec := "logRenews", inPlace := ["internal/abi.NoEscape"], unfollowed := true, recurses := true, apart := false }
def LogRenewsSaid : Prop := logRenewsRow.holds Try.pinned (OpenSpec.ofChange logRenewsSpec)

/-- ITS FALSE NEIGHBOUR: 'it returns false'. Refute it at one input. -/
def logRenewsWrong : ChangeSpec := { name := "logRenews", fn := fun _ => fun
  | [d1, d2] => { results := [.lit (.bool false)], args := [d1, d2] }
  | _ => none }
def LogRenewsWrongFalsely : Prop := logRenewsRow.holds Try.pinned (OpenSpec.ofChange logRenewsWrong)

/-- 'dovecotelaw05.LogRuns': WHATEVER THE INPUT: true; the input reads as it did. -/
def logRunsSpec : ChangeSpec := { name := "logRuns", fn := fun _ => fun
  | [d1, d2] => { results := [.lit (.bool true)], args := [d1, d2] }
  | _ => none }
def logRunsRow : OpenClaim := { program := "ytccdmedhkbabpaa", sum := "0b3dae0cb48f22d92e58da5251548f1e5a35c165a655249a56884dfd793e9d60", func := "dovecote/dovecotelaw05.LogRuns", spec := "logRuns", inPlace := ["internal/abi.NoEscape"], unfollowed := true, recurses := true, apart := false }
def LogRunsSaid : Prop := logRunsRow.holds Try.pinned (OpenSpec.ofChange logRunsSpec)

/-- ITS FALSE NEIGHBOUR: 'it returns false'. Refute it at one input. -/
def logRunsWrong : ChangeSpec := { name := "logRuns", fn := fun _ => fun
  | [d1, d2] => { results := [.lit (.bool false)], args := [d1, d2] }
  | _ => none }
def LogRunsWrongFalsely : Prop := logRunsRow.holds Try.pinned (OpenSpec.ofChange logRunsWrong)

/- THE SECOND FORM. 'bulk': how many values and letters a reading holds, each counted each time it is reached (what is shared counts as often as it is met; a slice's spare places count too). A statement '..UptoSaid' is the law's where the arguments, and the package variables that the reading takes, are together of bulk at most 1048576: NARROWER than '..Said'. Prove '..Said' where nothing that the law and all that it calls make is longer than what came in: it says more and counts as full. Else prove '..UptoSaid'. A law counts once. -/
mutual
def uptoBulk {H : Type} : DataW H → Nat
  | .lit (.string bytes) => bytes.length + 1
  | .lit _ => 1
  | .nil => 1
  | .ptr d => uptoBulk d + 1
  | .slice elems spare => uptoBulkAll elems + uptoBulkAll spare + 1
  | .agg parts => uptoBulkAll parts + 1
  | .iface _ d => uptoBulk d + 1
  | .map entries => uptoBulkEntries entries + 1
  | .held _ => 1
def uptoBulkAll {H : Type} : List (DataW H) → Nat
  | [] => 0
  | d :: r => uptoBulk d + uptoBulkAll r
def uptoBulkEntries {H : Type} : List (Lit × DataW H) → Nat
  | [] => 0
  | x :: r => uptoBulkEntry x + uptoBulkEntries r
def uptoBulkEntry {H : Type} : Lit × DataW H → Nat
  | (.string bytes, d) => bytes.length + uptoBulk d + 1
  | (_, d) => uptoBulk d + 1
 end
def uptoSmall : (H : Type) → List (DataW H) → Bool := fun _ ds => decide (uptoBulkAll ds ≤ 1048576)
def OpenSpec.upto (s : _root_.Go.ChangeSpec) : _root_.Go.OpenSpec := { _root_.Go.OpenSpec.ofChange s with cond := some uptoSmall }

/-- 'dovecotelaw05.LogKeeps', WHERE WHAT IT READS IS OF BULK AT MOST 1048576: true; the input reads as it did. -/
def logKeepsUptoRow : OpenClaim := { program := "ytccdmedhkbabpaa", sum := "0b3dae0cb48f22d92e58da5251548f1e5a35c165a655249a56884dfd793e9d60", func := "dovecote/dovecotelaw05.LogKeeps", spec := "logKeeps", inPlace := ["internal/abi.NoEscape"], unfollowed := true, recurses := true, apart := false, narrowed := true }
def LogKeepsUptoSaid : Prop := logKeepsUptoRow.holds Try.pinned (OpenSpec.upto logKeepsSpec)

/-- 'dovecotelaw05.LogFits', WHERE WHAT IT READS IS OF BULK AT MOST 1048576: true; the input reads as it did. -/
def logFitsUptoRow : OpenClaim := { program := "ytccdmedhkbabpaa", sum := "0b3dae0cb48f22d92e58da5251548f1e5a35c165a655249a56884dfd793e9d60", func := "dovecote/dovecotelaw05.LogFits", spec := "logFits", inPlace := ["internal/abi.NoEscape"], unfollowed := true, recurses := true, apart := false, narrowed := true }
def LogFitsUptoSaid : Prop := logFitsUptoRow.holds Try.pinned (OpenSpec.upto logFitsSpec)

/-- 'dovecotelaw05.LogRenews', WHERE WHAT IT READS IS OF BULK AT MOST 1048576: true; the input reads as it did. -/
def logRenewsUptoRow : OpenClaim := { program := "ytccdmedhkbabpaa", sum := "0b3dae0cb48f22d92e58da5251548f1e5a35c165a655249a56884dfd793e9d60", func := "dovecote/dovecotelaw05.LogRenews", spec := "logRenews", inPlace := ["internal/abi.NoEscape"], unfollowed := true, recurses := true, apart := false, narrowed := true }
def LogRenewsUptoSaid : Prop := logRenewsUptoRow.holds Try.pinned (OpenSpec.upto logRenewsSpec)

/-- 'dovecotelaw05.LogRuns', WHERE WHAT IT READS IS OF BULK AT MOST 1048576: true; the input reads as it did. -/
def logRunsUptoRow : OpenClaim := { program := "ytccdmedhkbabpaa", sum := "0b3dae0cb48f22d92e58da5251548f1e5a35c165a655249a56884dfd793e9d60", func := "dovecote/dovecotelaw05.LogRuns", spec := "logRuns", inPlace := ["internal/abi.NoEscape"], unfollowed := true, recurses := true, apart := false, narrowed := true }
def LogRunsUptoSaid : Prop := logRunsUptoRow.holds Try.pinned (OpenSpec.upto logRunsSpec)

end Rows
end Go.Proofs.Ytccdmedhkbabpaa

/- Printed words of this seat, cut by a program of this session: imports, or declarations, that no text of this claim names are left out. Conditions: those that each theorem names. -/
import Derived.Test.YtblabgdkbcphkaaWN
/-! ### 52. A row that stays read whatever happens to a block (a set of blocks) doesn't lie there -/
namespace Go.Proofs.YtblabgdkbcphkaaW.PrintWords
open Go.RowKit
namespace Kd
section
variable {α : Type} {d : Kd α} {W : World} {g n : Nat} {S ok : Nat → Prop} {A : Option Addr} {ad : Addr} {xs : List α}
end
end Kd
end Go.Proofs.YtblabgdkbcphkaaW.PrintWords

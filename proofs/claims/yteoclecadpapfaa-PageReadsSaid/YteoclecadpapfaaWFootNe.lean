-- Words of the kit's print, cut by a program of this claim to what its texts reach: no longer as they were printed.
import Derived.Test.YteoclecadpapfaaWN
/-! ### 52. A row that stays read whatever happens to a block (a set of blocks) doesn't lie there -/
namespace Go.Proofs.YteoclecadpapfaaW.PrintWords
open Go.RowKit
namespace Kd
section
variable {α : Type} {d : Kd α} {W : World} {g n : Nat} {S ok : Nat → Prop} {A : Option Addr} {ad : Addr} {xs : List α}
end
end Kd
end Go.Proofs.YteoclecadpapfaaW.PrintWords

/- A datagram's bytes, and which datagrams are right. -/
import Derived.Test.YteoclecadpapfaaM4
namespace Go.Proofs.Yteoclecadpapfaa.G
open Go.RowKit Go.Proofs.YteoclecadpapfaaW.PrintWords Go.Proofs.YteoclecadpapfaaW.PrintMore
/-- The sum of bytes by a table of 256 numbers. -/
def sumI (t b : List Int) : Int := Go.bits .xor .u32 4294967295 (addI t 4294967295 b)
theorem sumI_range (t b : List Int) : 0 ≤ sumI t b ∧ sumI t b < 4294967296 := bits_u32_range _ _ _
end Go.Proofs.Yteoclecadpapfaa.G

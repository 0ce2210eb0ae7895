/- A datagram's bytes, and which datagrams are right. -/
import Derived.Test.YteoclecadpapfaaM4
namespace Go.Proofs.Yteoclecadpapfaa.G
open Go.RowKit Go.Proofs.YteoclecadpapfaaW.PrintWords Go.Proofs.YteoclecadpapfaaW.PrintMore
/-- The sum of bytes by a table of 256 numbers. -/
def sumI (t b : List Int) : Int := Go.bits .xor .u32 4294967295 (addI t 4294967295 b)
theorem sumI_range (t b : List Int) : 0 ≤ sumI t b ∧ sumI t b < 4294967296 := bits_u32_range _ _ _
def gramRight (seq stamp : Int) (m : Bool) (b : List Int) : Bool := decide (0 ≤ seq ∧ seq ≤ 65535 ∧ 0 ≤ stamp ∧ stamp ≤ 4294967295 ∧ b.length ≤ 400 ∧ (m = true → b.length = 0))
def gramHead (seq stamp : Int) (m : Bool) (b : List Int) : List Int := lowI seq 2 ++ lowI stamp 4 ++ [if m then 1 else 0] ++ b
def gramBytes (t : List Int) (seq stamp : Int) (m : Bool) (b : List Int) : List Int := gramHead seq stamp m b ++ lowI (sumI t (gramHead seq stamp m b)) 4
theorem gramHead_length (seq stamp : Int) (m : Bool) (b : List Int) : (gramHead seq stamp m b).length = 7 + b.length := by simp [gramHead, lowI_length]; omega
theorem gramBytes_length (t : List Int) (seq stamp : Int) (m : Bool) (b : List Int) : (gramBytes t seq stamp m b).length = 11 + b.length := by
  rw [gramBytes, List.length_append, gramHead_length, lowI_length]
  omega
end Go.Proofs.Yteoclecadpapfaa.G

/- Pages that are alike; writing, answered. -/
import Derived.Test.YteoclecadpapfaaG33
import Derived.Test.YteoclecadpapfaaG36
import Derived.Test.YteoclecadpapfaaG32
namespace Go.Proofs.Yteoclecadpapfaa.G
open Go.RowKit Go.Proofs.YteoclecadpapfaaW.PrintWords Go.Proofs.YteoclecadpapfaaW.PrintMore
theorem same_self (s g : Int) (fi la co mo : Bool) (p : List (List Int)) (h : p.length ≤ 1000000) : psalteryref18_Same.f s g fi la co mo p s g fi la co mo p = some true := by
  unfold psalteryref18_Same.f psalteryref18_SameBytes.f
  rw [if_pos rfl, if_pos rfl, if_pos (by simp), if_pos (by simp), if_pos (by simp), if_pos (by simp), if_pos ⟨rfl, h⟩]
  rfl
end Go.Proofs.Yteoclecadpapfaa.G

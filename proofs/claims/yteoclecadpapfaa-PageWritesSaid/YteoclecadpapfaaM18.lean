/- Pages that are alike; writing, answered. -/
import Derived.Test.YteoclecadpapfaaG33
import Derived.Test.YteoclecadpapfaaG36
import Derived.Test.YteoclecadpapfaaG32
namespace Go.Proofs.Yteoclecadpapfaa.G
open Go.RowKit Go.Proofs.YteoclecadpapfaaW.PrintWords Go.Proofs.YteoclecadpapfaaW.PrintMore
theorem page_Write_eq (t : List Int) (s g : Int) (fi la co mo : Bool) (p : List (List Int)) (hg : greatB p = false) : page_Write.f t s g fi la co mo p = some (if pageRight s g mo p = true ∧ t.length = 256 then (pageBytes t s g fi la co mo p, 0) else ([], 1)) := by
  obtain ⟨h1, h2⟩ := greatB_small p hg
  unfold page_Write.f
  rw [if_pos ⟨h1, by omega⟩]
  split <;> rfl
end Go.Proofs.Yteoclecadpapfaa.G

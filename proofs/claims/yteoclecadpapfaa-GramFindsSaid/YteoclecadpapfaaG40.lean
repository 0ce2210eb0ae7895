/- What a call of psaltery/psalterylaw19.knows does, told by a plain Lean function of its arguments. Written by a program for this claim. -/
import Derived.Test.YteoclecadpapfaaG0
import Derived.Test.YteoclecadpapfaaGR40
namespace Go.Proofs.Yteoclecadpapfaa.G
open Go.RowKit Go.Proofs.YteoclecadpapfaaW.PrintWords Go.Proofs.YteoclecadpapfaaW.PrintLast Go.Proofs.YteoclecadpapfaaW.PrintMore
attribute [local go_sem] max2_int min2_int max_two min_two max_three min_three max_four min_four
set_option linter.unusedVariables false
set_option linter.unusedSimpArgs false

def psalterylaw19_knows.f : Option Bool := some true
theorem psalterylaw19_knows.of {r : Bool} (h : psalterylaw19_knows.f = some r) : psalterylaw19_knows_raw.f = some r := by
  rw [← h]
  kernel_rfl
theorem psalterylaw19_knows.calls (r : Bool) (w : World) (h : psalterylaw19_knows.f  = some r) :
    Calls Try.prog 40 #[] w fun e w' => e = .returned (.bool r) ∧ Below w.heap.size w w' := by
  exact psalterylaw19_knows_raw.calls r w (psalterylaw19_knows.of h)

end Go.Proofs.Yteoclecadpapfaa.G

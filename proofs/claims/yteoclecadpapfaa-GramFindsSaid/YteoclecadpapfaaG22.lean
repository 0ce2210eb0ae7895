/- What a call of psaltery/sums.Table does, told by a plain Lean function of its arguments. Written by a program for this claim. -/
import Derived.Test.YteoclecadpapfaaG0
import Derived.Test.YteoclecadpapfaaGR22
import Derived.Test.YteoclecadpapfaaM1
namespace Go.Proofs.Yteoclecadpapfaa.G
open Go.RowKit Go.Proofs.YteoclecadpapfaaW.PrintWords Go.Proofs.YteoclecadpapfaaW.PrintLast Go.Proofs.YteoclecadpapfaaW.PrintMore
attribute [local go_sem] max2_int min2_int max_two min_two max_three min_three max_four min_four
set_option linter.unusedVariables false
set_option linter.unusedSimpArgs false

def sums_Table.f : Option (List Int) := some tabL
theorem sums_Table.of {r : List Int} (h : sums_Table.f = some r) : ∃ k, sums_Table_raw.f k = some r := by
  refine ⟨4000, ?_⟩
  rw [← h]
  kernel_rfl
theorem sums_Table.calls (r : List Int) (w : World) (h : sums_Table.f  = some r) :
    Calls Try.prog 22 #[] w fun e w' => ∃ v0_ : Value, e = .returned (v0_) ∧ Kd.R (Kd.int .u32) 24 w' w.heap.size (fun _ => True) v0_ r ∧ Below w.heap.size w w' := by
  obtain ⟨k, hk⟩ := sums_Table.of h
  exact sums_Table_raw.calls k r w hk

end Go.Proofs.Yteoclecadpapfaa.G

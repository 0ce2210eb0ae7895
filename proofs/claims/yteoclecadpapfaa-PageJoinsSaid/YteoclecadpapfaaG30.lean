/- What a call of psaltery/sums.Begin does, told by a plain Lean function of its arguments. Written by a program for this claim. -/
import Derived.Test.YteoclecadpapfaaG0
namespace Go.Proofs.Yteoclecadpapfaa.G
open Go.RowKit Go.Proofs.YteoclecadpapfaaW.PrintWords Go.Proofs.YteoclecadpapfaaW.PrintLast Go.Proofs.YteoclecadpapfaaW.PrintMore
attribute [local go_sem] max2_int min2_int max_two min_two max_three min_three max_four min_four
set_option linter.unusedVariables false
set_option linter.unusedSimpArgs false

/-! ### sums_Begin: function 30 -/
def sums_Begin.f  : Option (Int) := some 4294967295
set_option maxHeartbeats 8000000 in
set_option maxRecDepth 100000 in
theorem sums_Begin.calls  (r : Int) (w : World) (h : sums_Begin.f  = some r) :
    Calls Try.prog 30 #[] w fun e w' => e = .returned (.int .u32 r) ∧ Drawn0 w w' := by
  have H : (some 4294967295) = some r := h
  clear h
  obtain rfl := Option.some.inj H
  go_enter Try.func30, Try.ntmps30
  go_wp2
  go_ret
  exact ⟨by first | rfl | (simp; done) | (simp [*]; done), by repeat (first | exact Drawn0.refl _ | apply Drawn0.step)⟩

end Go.Proofs.Yteoclecadpapfaa.G

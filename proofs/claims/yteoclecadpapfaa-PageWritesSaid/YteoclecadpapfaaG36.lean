/- What a call of psaltery/psalteryref18.SameBytes, psaltery/psalteryref18.Same does, told by a plain Lean function of its arguments. Written by a program for this claim. -/
import Derived.Test.YteoclecadpapfaaG0
import Derived.Test.YteoclecadpapfaaM13
import Derived.Test.YteoclecadpapfaaM4
import Derived.Test.YteoclecadpapfaaM24
namespace Go.Proofs.Yteoclecadpapfaa.G
open Go.RowKit Go.Proofs.YteoclecadpapfaaW.PrintWords Go.Proofs.YteoclecadpapfaaW.PrintLast Go.Proofs.YteoclecadpapfaaW.PrintMore
attribute [local go_sem] max2_int min2_int max_two min_two max_three min_three max_four min_four
set_option linter.unusedVariables false
set_option linter.unusedSimpArgs false

/-! ### psalteryref18_SameBytes_raw: function 59 -/
/-! ### psalteryref18_Same: function 36 -/
end Go.Proofs.Yteoclecadpapfaa.G

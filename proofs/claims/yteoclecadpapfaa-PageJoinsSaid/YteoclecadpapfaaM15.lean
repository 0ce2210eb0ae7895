/- The sum of a page, as the program makes it. -/
import Derived.Test.YteoclecadpapfaaG64
import Derived.Test.YteoclecadpapfaaM13
namespace Go.Proofs.Yteoclecadpapfaa.G
open Go.RowKit Go.Proofs.YteoclecadpapfaaW.PrintWords Go.Proofs.YteoclecadpapfaaW.PrintMore
theorem page_sum_eq (t b : List Int) (ht : t.length = 256) (hb : 21 ≤ b.length) : page_sum.f t b = some (pageSum t b) := by
  unfold page_sum.f sums_Begin.f
  rw [Option.bind_some, if_pos (show (17 : Int) ≤ (b.length : Int) by omega), sums_Add.f, if_pos ht, Option.bind_some, if_pos (by decide), sums_Add.f, if_pos ht, Option.bind_some, if_pos (show (21 : Int) ≤ (b.length : Int) by omega), sums_Add.f, if_pos ht, Option.bind_some, sums_End.f, Option.bind_some]
  congr 1
  unfold pageSum sumI
  rw [addI_append, addI_append]
  rfl
end Go.Proofs.Yteoclecadpapfaa.G
